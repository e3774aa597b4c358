/- The law on corrupted trees. -/
import Derived.Test.YtiacmahfjcolaaaDoorLawH10
import Derived.IntWalk
namespace Go.Proofs.YtiacmahfjcolaaaDoor
open Go.RowKit

section
variable {P : Program} {α : Type} (D : El P α) {w : World} {A B : Option Addr} {xs ys : List α} {ρ : Operand → Value} {o : Oper}
/-- an empty row of the call's own, without room -/
def TEmpty (base : Nat) : Ty := ⟨fun v w => ∃ A, v = .slice A 0 0 ∧ Own D base w v ([] : List α), fun _ _ _ he ⟨A, h1, h2⟩ => ⟨A, h1, h2.ext he⟩⟩
theorem yld_empty {base : Nat} (ho : o.op = .buildSlice D.t 0 #[]) (hbase : base ≤ w.heap.size) (hr : ∀ w, (Instr.buildSlice D.t 0 #[]).run P w = .ok (.slice (some ⟨w.heap.size, 0, none⟩) 0 0) (w.alloc (.cells #[] D.e)) := by intro w; first | (go_simp; rfl) | (change (Instr.buildSlice _ _ _).run _ w = _; go_simp; rfl)) : Yld P ρ o w (TEmpty D base).p := by
  refine yld_run (w' := w.alloc (.cells #[] D.e)) (v := .slice (some ⟨w.heap.size, 0, none⟩) 0 0) ?_ ((Ext.refl _).alloc _) ⟨_, rfl, Own.made D hbase⟩
  simp [execOp, ho, hr]
/-- append onto it -/
theorem yld_appOwn (s x : Operand) (ho : o.op = .call { callee := .builtin .append, args := #[s, x], argTypes := #[D.t, D.t] }) (c base : Nat) (A : Option Addr) (hs : ρ s = .slice A 0 0) (hown : Own D base w (.slice A 0 0) ([] : List α)) (hx : ρ x = .slice B ys.length c)
    (h2 : Sl D w B ys) (hn : ys.length ≤ 68719476736) (hbase : base ≤ w.heap.size) : Yld P ρ o w (TOwn D base ys).p := by
  have hr := run_appFull D (xs := ([] : List α)) (A := A) o.type c Sl.nil h2 (by simpa using hn)
  unfold Yld execOp
  simp only [ho, resolve, invoke, builtin, Sem.run_bind, Sem.run_pure, Result.andThen_ok, List.map_toArray, List.map_cons, List.map_nil, hs, hx]
  rcases hr with ⟨h0, hr⟩ | ⟨h0, v', w', hr, hown', hext⟩
  · subst h0
    have hr2 : (Builtin.append_ #[D.t, D.t] o.type #[.slice A 0 0, .slice B ([] : List α).length c]).run P w = .ok (.slice A 0 0) w := hr
    simp only [hr2, Result.andThen_ok]
    exact ⟨Ext.refl _, hown⟩
  · have hr2 : (Builtin.append_ #[D.t, D.t] o.type #[.slice A 0 0, .slice B ys.length c]).run P w = .ok v' w' := hr
    simp only [hr2, Result.andThen_ok]
    refine ⟨hext, ?_⟩
    show Own D base w' v' ys
    simpa using hown'.mono hbase
theorem yld_slTo (x hi : Operand) (ho : o.op = .slice D.t x none (some hi) none) (c : Nat) (hx : ρ x = .slice A xs.length c) (h : Nat) (hhi : ρ hi = .int .i64 h)
    (hsl : Sl D w A xs) (h2 : h ≤ xs.length) (h3 : xs.length ≤ c) : Yld P ρ o w (TSl D (xs.take h)).p := by
  have hr := run_slice_any D (w := w) (A := A) (c := c) xs.length 0 h c none (some (.int .i64 h)) none rfl rfl rfl (Nat.zero_le _) (by omega) (Nat.le_refl _) h3
  unfold Yld execOp
  simp only [ho, hx, hhi, Option.map_some, Option.map_none, Sem.run_bind, Sem.run_pure, hr, Result.andThen_ok]
  refine ⟨Ext.refl _, ?_⟩
  have hs := Sl.cut D hsl 0 h (Nat.zero_le _) h2 h3
  simp only [List.drop_zero, Nat.sub_zero] at hs ⊢
  have e : h = (xs.take h).length := by simp; omega
  have e2 : (Value.slice (if c = 0 then A else A.map (·.add (0 * D.m))) h c) = .slice (if c = 0 then A else A.map (·.add (0 * D.m))) (xs.take h).length c := by rw [← e]
  rw [e2]
  exact ⟨_, _, rfl, by rw [← e]; omega, hs⟩
theorem yld_slFrom (x lo : Operand) (ho : o.op = .slice D.t x (some lo) none none) (c : Nat) (hx : ρ x = .slice A xs.length c) (l : Nat) (hlo : ρ lo = .int .i64 l)
    (hsl : Sl D w A xs) (h2 : l ≤ xs.length) (h3 : xs.length ≤ c) : Yld P ρ o w (TSl D (xs.drop l)).p := by
  have hr := run_slice_any D (w := w) (A := A) (c := c) xs.length l xs.length c (some (.int .i64 l)) none none rfl rfl rfl h2 h3 (Nat.le_refl _) h3
  unfold Yld execOp
  simp only [ho, hx, hlo, Option.map_some, Option.map_none, Sem.run_bind, Sem.run_pure, hr, Result.andThen_ok]
  refine ⟨Ext.refl _, ?_⟩
  have hs := Sl.drop hsl l c h2 h3
  have e : xs.length - l = (xs.drop l).length := by simp
  rw [e]
  exact ⟨_, _, rfl, by rw [← e]; omega, hs⟩
end
theorem ReadsAll.take {w : World} : ∀ {us : List GUnit} {rs : List RUnit} (n : Nat), ReadsAll w us rs → ReadsAll w (us.take n) (rs.take n)
  | [], [], n, h => by simpa using h
  | u :: us, r :: rs, 0, _ => by simp only [List.take_zero]; rw [ReadsAll]; trivial
  | u :: us, r :: rs, n + 1, h => by
    rw [ReadsAll] at h
    rw [List.take_succ_cons, List.take_succ_cons, ReadsAll]
    exact ⟨h.1, ReadsAll.take n h.2⟩
  | [], _ :: _, _, h => by rw [ReadsAll] at h; exact h.elim
  | _ :: _, [], _, h => by rw [ReadsAll] at h; exact h.elim
theorem ReadsAll.drop {w : World} : ∀ {us : List GUnit} {rs : List RUnit} (n : Nat), ReadsAll w us rs → ReadsAll w (us.drop n) (rs.drop n)
  | us, rs, 0, h => h
  | [], [], n + 1, h => by simpa using h
  | u :: us, r :: rs, n + 1, h => by
    rw [ReadsAll] at h
    exact ReadsAll.drop n h.2
  | [], _ :: _, _ + 1, h => by rw [ReadsAll] at h; exact h.elim
  | _ :: _, [], _ + 1, h => by rw [ReadsAll] at h; exact h.elim
theorem ReadsAll.append {w : World} : ∀ {us vs : List GUnit} {rs ss : List RUnit}, ReadsAll w us rs → ReadsAll w vs ss → ReadsAll w (us ++ vs) (rs ++ ss)
  | [], _, [], _, _, h => h
  | u :: us, vs, r :: rs, ss, h, h2 => by
    rw [ReadsAll] at h
    rw [List.cons_append, List.cons_append, ReadsAll]
    exact ⟨h.1, ReadsAll.append h.2 h2⟩
  | [], _, _ :: _, _, h, _ => by rw [ReadsAll] at h; exact h.elim
  | _ :: _, _, [], _, h, _ => by rw [ReadsAll] at h; exact h.elim

theorem few_words {u : GUnit} (h : fewF u 60 = true) : u.words.length ≤ 300 := by
  unfold fewF at h
  rw [Bool.and_eq_true] at h
  have h2 := h.2
  cases u
  simp only [wordsF, Bool.and_eq_true, decide_eq_true_eq] at h2
  exact shortB_len h2.1.2
theorem reads_id {w : World} {u : GUnit} {r : RUnit} (h : Reads w u r) : u.id = ⟨r.a, r.i, r.n⟩ := by
  obtain ⟨a, i, n, k, l, hd, wd, ks⟩ := u
  rw [Reads] at h
  obtain ⟨⟨h1, h2, h3, -⟩, -⟩ := h
  rw [h1, h2, h3]
  rfl

set_option maxRecDepth 100000 in
set_option maxHeartbeats 6400000 in
theorem footnoteCorruption_law (u : GUnit) (r : RUnit) (at_ how : Int) (w : World) (hr : Reads w u r) (hbig : AllU (lensLe 9223372036854775807 9223372036854775807) u) (hT : Tab w) :
    Calls Tryd.prog 8 #[.agg r.cells.toArray, .int .i64 at_, .int .i64 how] w fun e w' => e = .returned (.bool true) ∧ Ext w w' := by
  have hx0 : Ext w (w.alloc (.cells r.cells.toArray 27)) := (Ext.refl w).alloc _
  have Hbu := Lib.hid (show ∀ w', Ext (w.alloc (.cells r.cells.toArray 27)) w' → _ from fun w' he => boxUnit (w' := w') r (w := w) he)
  have Hbt := Lib.hid (show ∀ w', Ext (w.alloc (.cells r.cells.toArray 27)) w' → _ from fun w' he => boxT (w' := w') r (w := w) he)
  have Hfew := Lib.hid (show ∀ w', Ext w w' → _ from fun w' he => few6_any u r 60 w' (Reads.ext he _ _ hr) hbig (by decide) (by decide))
  have Hru := Lib.hid (show ∀ w', Ext w w' → Reads w' u r from fun w' he => Reads.ext he _ _ hr)
  have HT := Lib.hid (show ∀ w', Ext w w' → Tab w' from fun w' he => hT.ext he)
  obtain ⟨wz, hwz⟩ : ∃ wz, w.alloc (.cells r.cells.toArray 27) = wz := ⟨_, rfl⟩
  rw [hwz] at hx0 Hbu Hbt
  simp only [RUnit.cells] at hwz
  have Hwz := Lib.hid hwz
  have hok : fewF u 60 = true → OkT u ∧ u.words.length ≤ 300 := fun h => ⟨few_ok h, few_words h⟩
  obtain ⟨F, hF⟩ : ∃ F, fewF u 60 = F := ⟨_, rfl⟩
  rw [hF] at Hfew hok
  have Hok := Lib.hid hok
  simp only [RUnit.cells] at Hfew Hbt ⊢
  clear hwz hbig hr hT hF hok
  go_enter Tryd.func8, Tryd.ntmps8
  go_wp2_with fail
  rw [Hwz.out]
  refine (awake10_any _ (HT.out _ hx0)).mono ?_
  rintro e w1 ⟨rfl, hx1⟩
  obtain ⟨-, u0, u1, u2, u3, u4, u5, u6, u7⟩ := Hbu.out w1 hx1
  go_wp2_with fail
  refine (Hfew.out w1 (hx0.trans hx1)).mono ?_
  rintro e w2 ⟨rfl, hx2⟩
  have hxz : Ext wz w2 := hx1.trans hx2
  have hw0 : Ext w w2 := hx0.trans hxz
  clear u0 u1 u2 u3 u4 u5 u6 u7 Hfew hx0 hx1 hx2
  obtain ⟨-, u0, u1, u2, u3, u4, u5, u6, u7⟩ := Hbu.out w2 hxz
  cases F
  case false =>
    go_wp2
    go_ret
    exact ⟨rfl, hw0⟩
  case true =>
    obtain ⟨hok, hwl⟩ := Hok.out rfl
    have Hb := Lib.hid (show ∀ w', Ext w2 w' → (TCells [.int .i64 r.a, .int .i64 r.i, .int .i64 r.n, .int .i64 r.kind, .string r.label, .slice r.hA r.hn r.hc, .slice r.wA r.wn r.wc, .slice r.kA r.kn r.kc]).p (.pointer (some ⟨w.heap.size, 0, none⟩)) w' from fun w' he => Hbt.out w' (hxz.trans he))
    have Hbq := Lib.hid (show ∀ w', Ext w2 w' → _ from fun w' he => Hbu.out w' (hxz.trans he))
    have Hr := Lib.hid (show ∀ w', Ext w2 w' → Reads w' u r from fun w' he => Hru.out w' (hw0.trans he))
    have HT2 := Lib.hid (show ∀ w', Ext w2 w' → Tab w' from fun w' he => HT.out w' (hw0.trans he))
    clear Hbt Hbu Hru HT Hok
    obtain ⟨a0, i0, n0, k0, l0, hz, wd, ks⟩ := u
    have hru := Hr.out w2 (Ext.refl _)
    have hl5 := fun wq (he : Ext w2 wq) => fvalid_any _ r wq (Hr.out wq he) hok
    have hcl : validB (.mk a0 i0 n0 k0 l0 hz wd ks) = true → checkF (.mk a0 i0 n0 k0 l0 hz wd ks) = [] := (validB_iff _).1
    rw [Reads] at hru
    obtain ⟨⟨q1, q2, q3, q4, q5⟩, ⟨hhn, hhc, hhs⟩, ⟨hwn, hwc, hws⟩, hkn, hkc, rs, hks, hall⟩ := hru
    obtain ⟨ra, ri, rn, rk, rl, hdA, hn, hc, wA, wn, wc, kA, kn, kc⟩ := r
    have hrl := ReadsAll.length hall
    have hkl := hok.short.2.2.1
    simp only [GUnit.kids] at hkl
    simp only [GUnit.words] at hwl
    dsimp only at q1 q2 q3 q4 q5 hhn hhc hhs hwn hwc hws hkn hkc hks Hb Hbq Hr Hwz ⊢
    subst q1 q2 q3 q4 q5 hhn hwn
    rw [← hrl] at hkn hkc hkl
    subst hkn
    simp only [RUnit.cells] at hl5
    obtain ⟨V, hV⟩ : ∃ V, validB (.mk ra ri rn rk rl hz wd ks) = V := ⟨_, rfl⟩
    rw [hV] at hl5 hcl
    have H5 := Lib.hid hl5
    have Hcl := Lib.hid hcl
    have Hok := Lib.hid hok
    have Hrl := Lib.hid hrl
    have Hall := Lib.hid hall
    clear hl5 hcl hV hok hrl hall
    obtain ⟨-, u0, u1, u2, u3, u4, u5, u6, u7⟩ := Hbq.out w2 (Ext.refl _)
    go_wp2_with fail
    refine (H5.out w2 (Ext.refl _)).mono ?_
    rintro e w3 ⟨rfl, hx3⟩
    clear u0 u1 u2 u3 u4 u5 u6 u7
    cases V
    case false =>
      go_wp2
      go_ret
      exact ⟨rfl, hw0.trans hx3⟩
    by_cases hneg : at_ < 0
    case pos =>
      have d1 : decide (at_ < 0) = true := decide_eq_true hneg
      go_wp2
      go_ret
      exact ⟨rfl, hw0.trans hx3⟩
    obtain ⟨n, rfl⟩ : ∃ n : Nat, at_ = n := ⟨at_.toNat, by omega⟩
    obtain ⟨-, u0, u1, u2, u3, u4, u5, u6, u7⟩ := Hbq.out w3 hx3
    have hck := Hcl.out rfl
    have Hck := Lib.hid hck
    clear hneg hck Hcl H5
    have dn : decide ((n : Int) < 0) = false := decide_eq_false (by omega)
    by_cases h0 : how = 0
    case pos =>
      subst h0
      by_cases hn : n < rs.length
      case neg =>
        have hge : rs.length ≤ n := by omega
        have d1 : decide ((rs.length : Int) ≤ (n : Int)) = true := decide_eq_true (by omega)
        clear hn
        go_wp2_with (refine wpList_put rfl 27 (.tmp 7) (.tmp 25) rfl w3.heap.size 0 (.agg (RUnit.cells ⟨ra, ri, rn, rk, rl, hdA, hz.length, hc, wA, wd.length, wc, kA, rs.length, kc⟩).toArray) rfl rfl (RUnit.cells ⟨ra, ri, rn, rk, rl, hdA, hz.length, hc, wA, wd.length, wc, kA, rs.length, kc⟩) rfl Tryd.sizeOf27 (unitEl.h1 _) 27 _ (heap_alloc_new w3 _) (by simp [RUnit.cells]) ?_; intro w4 hwp hosp htpp houp hsp hbkp; have hbw4 : w4.heap[w3.heap.size]? = some (.cells (RUnit.cells ⟨ra, ri, rn, rk, rl, hdA, hz.length, hc, wA, wd.length, wc, kA, rs.length, kc⟩).toArray 27 (0, 0)) := hbkp.trans (by simp [RUnit.cells]); have hxw4 : Ext w3 w4 := ((Ext.refl w3).alloc _).put (Nat.le_refl _) hwp hosp htpp houp hsp; clear hwp hosp htpp houp hsp hbkp; have hx24 : Ext w2 w4 := hx3.trans hxw4; clear u0 u1 u2 u3 u4 u5 u6 u7; obtain ⟨-, u0, u1, u2, u3, u4, u5, u6, u7⟩ := Hbq.out w4 hx24)
        go_wp2
        go_ret
        exact ⟨rfl, hw0.trans hx24⟩
      obtain ⟨b, off, rfl, hb, -, -, -, g3, g4, -, -, -⟩ := unitAt (hks.ext (Ext.refl _)) hn
      obtain ⟨q, hq⟩ : ∃ q, rs[n]? = some q := ⟨_, List.getElem?_eq_getElem hn⟩
      have hqk : rs[n] = q := (List.getElem?_eq_some_iff.1 hq).2
      rw [hqk] at g3 g4
      have Hg := Lib.hid (show ∀ w', Ext w2 w' → w'.cell? ⟨b, off + n * 8 + 3, none⟩ = some (.int .i64 q.kind) ∧ w'.cell? ⟨b, off + n * 8 + 4, none⟩ = some (.string q.label) from fun w' he => ⟨(he.cell (p := ⟨b, off + n * 8 + 3, none⟩) hb).trans g3, (he.cell (p := ⟨b, off + n * 8 + 4, none⟩) hb).trans g4⟩)
      have hnk : n < ks.length := by rw [← Hrl.out]; exact hn
      have Hkl2 := Lib.hid (show q.kind = ks[n].kind ∧ q.label = ks[n].label from by rw [← hqk]; exact reads_kl (ReadsAll.get Hall.out n hnk hn))
      have Hq := Lib.hid hq
      clear g3 g4 hq hqk
      have hge : ¬ rs.length ≤ n := by omega
      by_cases h7 : q.kind = 7
      case neg =>
        have d2 : (q.kind == 7) = false := by simp [h7]
        have d3 : (q.kind != 7) = true := by simp [h7]
        go_wp2_with (refine wpList_put rfl 27 (.tmp 7) (.tmp 25) rfl w3.heap.size 0 (.agg (RUnit.cells ⟨ra, ri, rn, rk, rl, hdA, hz.length, hc, wA, wd.length, wc, (some ⟨b, off, none⟩), rs.length, kc⟩).toArray) rfl rfl (RUnit.cells ⟨ra, ri, rn, rk, rl, hdA, hz.length, hc, wA, wd.length, wc, (some ⟨b, off, none⟩), rs.length, kc⟩) rfl Tryd.sizeOf27 (unitEl.h1 _) 27 _ (heap_alloc_new w3 _) (by simp [RUnit.cells]) ?_; intro w4 hwp hosp htpp houp hsp hbkp; have hbw4 : w4.heap[w3.heap.size]? = some (.cells (RUnit.cells ⟨ra, ri, rn, rk, rl, hdA, hz.length, hc, wA, wd.length, wc, (some ⟨b, off, none⟩), rs.length, kc⟩).toArray 27 (0, 0)) := hbkp.trans (by simp [RUnit.cells]); have hxw4 : Ext w3 w4 := ((Ext.refl w3).alloc _).put (Nat.le_refl _) hwp hosp htpp houp hsp; clear hwp hosp htpp houp hsp hbkp; have hx24 : Ext w2 w4 := hx3.trans hxw4; clear u0 u1 u2 u3 u4 u5 u6 u7; obtain ⟨-, u0, u1, u2, u3, u4, u5, u6, u7⟩ := Hbq.out w4 hx24; obtain ⟨g3, g4⟩ := Hg.out w4 hx24)
        go_wp2
        go_ret
        exact ⟨rfl, hw0.trans hx24⟩
      have d2 : (q.kind == 7) = true := by simp [h7]
      have d3 : (q.kind != 7) = false := by simp [h7]
      have H7 := Lib.hid h7
      clear h7
      go_wp2_with (refine wpList_put rfl 27 (.tmp 7) (.tmp 25) rfl w3.heap.size 0 (.agg (RUnit.cells ⟨ra, ri, rn, rk, rl, hdA, hz.length, hc, wA, wd.length, wc, (some ⟨b, off, none⟩), rs.length, kc⟩).toArray) rfl rfl (RUnit.cells ⟨ra, ri, rn, rk, rl, hdA, hz.length, hc, wA, wd.length, wc, (some ⟨b, off, none⟩), rs.length, kc⟩) rfl Tryd.sizeOf27 (unitEl.h1 _) 27 _ (heap_alloc_new w3 _) (by simp [RUnit.cells]) ?_; intro w4 hwp hosp htpp houp hsp hbkp; have hbw4 : w4.heap[w3.heap.size]? = some (.cells (RUnit.cells ⟨ra, ri, rn, rk, rl, hdA, hz.length, hc, wA, wd.length, wc, (some ⟨b, off, none⟩), rs.length, kc⟩).toArray 27 (0, 0)) := hbkp.trans (by simp [RUnit.cells]); have hxw4 : Ext w3 w4 := ((Ext.refl w3).alloc _).put (Nat.le_refl _) hwp hosp htpp houp hsp; clear hwp hosp htpp houp hsp hbkp; have hx24 : Ext w2 w4 := hx3.trans hxw4; clear u0 u1 u2 u3 u4 u5 u6 u7; obtain ⟨-, u0, u1, u2, u3, u4, u5, u6, u7⟩ := Hbq.out w4 hx24; obtain ⟨g3, g4⟩ := Hg.out w4 hx24)
      clear u0 u1 u2 u3 u4 u5 u6 u7 g3 g4 d2 d3
      have hkw := hks.ext hx24
      refine wp_drawn_tail 11 (fun i => match i with | 0 => TEmpty unitEl w4.heap.size | 1 => TCells [.slice (some ⟨b, off, none⟩) rs.length kc] | 2 => Ty.is (.slice (some ⟨b, off, none⟩) rs.length kc) | 3 => Ty.is (.int .i64 (n : Nat)) | 4 => TSl unitEl (rs.take n) | 5 => TOwn unitEl w4.heap.size (rs.take n) | 6 => TCells [.slice (some ⟨b, off, none⟩) rs.length kc] | 7 => Ty.is (.slice (some ⟨b, off, none⟩) rs.length kc) | 8 => Ty.is (.int .i64 (n : Nat)) | 9 => Ty.is (.int .i64 ((n + 1 : Nat) : Int)) | 10 => TSl unitEl (rs.drop (n + 1)) | _ => Ty.any) (by kernel_rfl) (by kernel_rfl) (by kernel_rfl) (by decide) rfl ?_
      intro v
      refine ⟨?_, ?_, ?_, ?_, ?_, ?_, ?_, ?_, ?_, ?_, ?_, ?_⟩
      · intro wq hq hd
        refine ob_plain rfl ?_
        exact yld_empty unitEl rfl hq.size
      · intro wq hq hd
        refine ob_plain rfl ?_
        exact yld_field 27 5 (.tmp 3) rfl _ Tryd.underlying27 _ rfl 1 Tryd.sizeOf25 (by decide) [.int .i64 ra, .int .i64 ri, .int .i64 rn, .int .i64 rk, .string rl, .slice hdA hz.length hc, .slice wA wd.length wc, .slice (some ⟨b, off, none⟩) rs.length kc] (Hb.out _ (hx24.trans hq))
      · intro wq hq hd
        obtain ⟨h0, -⟩ := hd
        change (TCells [.slice (some ⟨b, off, none⟩) rs.length kc]).p (v 1) wq at h0
        refine ob_plain rfl ?_
        exact yld_loadOne 25 (.tmp 44) rfl Tryd.isAgg25 (c := .slice (some ⟨b, off, none⟩) rs.length kc) h0 rfl
      · intro wq hq hd
        refine ob_plain rfl ?_
        exact yld_move (.tmp 1) rfl rfl rfl
      · intro wq hq hd
        obtain ⟨h0, h1, -⟩ := hd
        change v 2 = _ at h0
        change v 3 = _ at h1
        refine ob_plain rfl ?_
        exact yld_slTo unitEl (.tmp 45) (.tmp 46) rfl kc h0 n h1 (hkw.ext hq) (by omega) (by omega)
      · intro wq hq hd
        obtain ⟨h0, h1, -⟩ := hd
        change (TEmpty unitEl w4.heap.size).p (v 0) wq at h0
        change (TSl unitEl (rs.take n)).p (v 4) wq at h1
        refine ob_plain rfl ?_
        obtain ⟨A0, e0, o0⟩ := h0
        obtain ⟨A1, c1, e1, hc1, s1⟩ := h1
        exact yld_appOwn unitEl (.tmp 43) (.tmp 47) rfl c1 _ A0 e0 (e0 ▸ o0) e1 s1 (by rw [List.length_take]; omega) hq.size
      · intro wq hq hd
        refine ob_plain rfl ?_
        exact yld_field 27 5 (.tmp 3) rfl _ Tryd.underlying27 _ rfl 1 Tryd.sizeOf25 (by decide) [.int .i64 ra, .int .i64 ri, .int .i64 rn, .int .i64 rk, .string rl, .slice hdA hz.length hc, .slice wA wd.length wc, .slice (some ⟨b, off, none⟩) rs.length kc] (Hb.out _ (hx24.trans hq))
      · intro wq hq hd
        obtain ⟨h0, -⟩ := hd
        change (TCells [.slice (some ⟨b, off, none⟩) rs.length kc]).p (v 6) wq at h0
        refine ob_plain rfl ?_
        exact yld_loadOne 25 (.tmp 49) rfl Tryd.isAgg25 (c := .slice (some ⟨b, off, none⟩) rs.length kc) h0 rfl
      · intro wq hq hd
        refine ob_plain rfl ?_
        exact yld_move (.tmp 1) rfl rfl rfl
      · intro wq hq hd
        obtain ⟨h0, -⟩ := hd
        change v 8 = _ at h0
        refine ob_plain rfl ?_
        exact yld_binInt .add 3 3 (.tmp 51) _ rfl _ _ h0 rfl (run_add_i64 _ _ _ (by omega) (by omega)) rfl
      · intro wq hq hd
        obtain ⟨h0, h1, -⟩ := hd
        change v 7 = _ at h0
        change v 9 = _ at h1
        refine ob_plain rfl ?_
        exact yld_slFrom unitEl (.tmp 50) (.tmp 52) rfl kc h0 (n + 1) h1 (hkw.ext hq) (by omega) (by omega)
      · intro wq hq hT
        have k5 := hT 5 (by decide)
        change (TOwn unitEl w4.heap.size (rs.take n)).p (v 5) wq at k5
        have k10 := hT 10 (by decide)
        change (TSl unitEl (rs.drop (n + 1))).p (v 10) wq at k10
        clear hT
        simp only [List.drop_succ_cons, List.drop_zero, putE, setsE, List.set_cons_succ, List.set_cons_zero, Nat.reduceAdd]
        generalize v 5 = x5 at k5 ⊢
        generalize v 10 = x10 at k10 ⊢
        have k5' : Own unitEl w4.heap.size wq x5 (rs.take n) := k5
        obtain ⟨A5, c5, rfl, hc5, -⟩ := k5'.form
        obtain ⟨A10, c10, rfl, hc10, s10⟩ := k10
        go_wp2_with (first | (at_builtin; refine wpList_app unitEl rfl (.tmp 48) (.tmp 53) rfl c10 rfl k5' rfl s10 (by rw [List.length_take, List.length_drop]; omega) hq.size ?_; intro v5 w5 hown5 hb5 hg5; obtain ⟨A6, c6, rfl, hc6, -⟩ := hown5.form; have hx45 : Ext w4 w5 := hq.trans' hb5; have hbv := (hx45.block (block_lt hbw4)).trans hbw4) |
          (refine wpList_fld rfl 27 5 (.tmp 7) rfl _ Tryd.underlying27 _ rfl 1 Tryd.sizeOf25 (by decide) w3.heap.size 0 rfl ?_) |
          (refine wpList_put rfl 25 (.tmp 55) (.tmp 54) rfl w3.heap.size 7 (.slice A6 (rs.take n ++ rs.drop (n + 1)).length c6) rfl rfl [.slice A6 (rs.take n ++ rs.drop (n + 1)).length c6] rfl Tryd.sizeOf25 (by simp [Value.oneCell']) 27 _ hbv (by simp [RUnit.cells]) ?_; intro w6 hw6 hos6 htp6 hou6 hs6 hbk6))
        have hx36 : Ext w3 w6 := (hxw4.trans hx45).put (Nat.le_refl _) hw6 hos6 htp6 hou6 hs6
        have hx26 : Ext w2 w6 := hx3.trans hx36
        have hbv6 : w6.heap[w3.heap.size]? = some (.cells (RUnit.cells ⟨ra, ri, rn, rk, rl, hdA, hz.length, hc, wA, wd.length, wc, A6, (rs.take n ++ rs.drop (n + 1)).length, c6⟩).toArray 27 (0, 0)) := hbk6.trans (by simp [RUnit.cells])
        have h34 := hxw4.size
        have hlt4 := block_lt hbw4
        have hown6 : Own unitEl w4.heap.size w6 (.slice A6 (rs.take n ++ rs.drop (n + 1)).length c6) (rs.take n ++ rs.drop (n + 1)) := hown5.keep fun g hg => hw6 g (by have := (hown5.lt g hg).1; omega)
        obtain ⟨_, _, hv6, hc6', hs6'⟩ := hown6.form
        cases hv6
        have hksE : ks = ks.take n ++ ks[n] :: ks.drop (n + 1) := by rw [← List.drop_eq_getElem_cons hnk, List.take_append_drop]
        have hrd6 : Reads w6 (.mk ra ri rn rk rl hz wd (ks.take n ++ ks.drop (n + 1))) ⟨ra, ri, rn, rk, rl, hdA, hz.length, hc, wA, wd.length, wc, A6, (rs.take n ++ rs.drop (n + 1)).length, c6⟩ := by
          rw [Reads]
          have hra := (ReadsAll.take n (ReadsAll.ext hx26 _ _ Hall.out)).append (ReadsAll.drop (n + 1) (ReadsAll.ext hx26 _ _ Hall.out))
          have hle := ReadsAll.length hra
          exact ⟨⟨rfl, rfl, rfl, rfl, rfl⟩, ⟨rfl, hhc, hhs.ext hx26⟩, ⟨rfl, hwc, hws.ext hx26⟩, hle, by rw [← hle]; exact hc6', _, hs6', hra⟩
        have hok6 : OkT (.mk ra ri rn rk rl hz wd (ks.take n ++ ks.drop (n + 1))) := OkT.lose Hok.out hksE
        obtain ⟨j, hj⟩ := lose_note Hck.out hksE (by rw [← Hkl2.out.1]; exact H7.out)
        rw [← Hkl2.out.2] at hj
        have hl1 := fun wq (he : Ext w6 wq) => check_any _ _ wq (Reads.ext he _ _ hrd6) hok6
        rw [hj] at hl1
        simp only [RUnit.cells] at hl1
        have H1 := Lib.hid hl1
        have Hv := Lib.hid (show ∀ w', Ext w6 w' → (TCells [.int .i64 ra, .int .i64 ri, .int .i64 rn, .int .i64 rk, .string rl, .slice hdA hz.length hc, .slice wA wd.length wc, .slice A6 (rs.take n ++ rs.drop (n + 1)).length c6]).p (.pointer (some ⟨w3.heap.size, 0, none⟩)) w' from fun w' he => blockT hbv6 (block_lt hbv6) he)
        clear hl1 hj hrd6 hok6 hksE hown6 hown5 hb5 hg5 hbv hbv6 hbk6 hw6 hs6' k5' k5 s10 hc10
        go_wp2
        refine wp_drawn (by kernel_rfl) (fun i => match i with | 0 => Ty.is (.agg #[.int .i64 ra, .int .i64 ri, .int .i64 rn, .int .i64 rk, .string rl, .slice hdA hz.length hc, .slice wA wd.length wc, .slice A6 (rs.take n ++ rs.drop (n + 1)).length c6]) | 1 => TSl findEl [(⟨j, ra, ri, rn, 4, q.label⟩ : GFind)] | 2 => TCells [.int .i64 ra, .int .i64 ri, .int .i64 rn] | 3 => Ty.is (.agg #[.int .i64 ra, .int .i64 ri, .int .i64 rn]) | 4 => TCells [.slice (some ⟨b, off, none⟩) rs.length kc] | 5 => Ty.is (.slice (some ⟨b, off, none⟩) rs.length kc) | 6 => Ty.is (.int .i64 (n : Nat)) | 7 => TCells [.int .i64 q.a, .int .i64 q.i, .int .i64 q.n, .int .i64 q.kind, .string q.label, .slice q.hA q.hn q.hc, .slice q.wA q.wn q.wc, .slice q.kA q.kn q.kc] | 8 => TCells [.string q.label] | 9 => Ty.is (.string q.label) | 10 => Ty.is (.bool true) | 11 => Ty.is (.bool true) | _ => Ty.any) (by kernel_rfl) rfl ?_
        intro v
        refine ⟨?_, ?_, ?_, ?_, ?_, ?_, ?_, ?_, ?_, ?_, ?_, ?_, ?_⟩
        · intro wq hq hd
          refine ob_plain rfl ?_
          exact yld_loadAgg 27 (.tmp 7) rfl Tryd.isAgg27 8 Tryd.sizeOf27 [.int .i64 ra, .int .i64 ri, .int .i64 rn, .int .i64 rk, .string rl, .slice hdA hz.length hc, .slice wA wd.length wc, .slice A6 (rs.take n ++ rs.drop (n + 1)).length c6] rfl (Hv.out _ hq) rfl
        · intro wq hq hd
          obtain ⟨h0, -⟩ := hd
          change v 0 = _ at h0
          refine ob_plain rfl ?_
          refine yld_call 19 Tryd.call19 _ _ rfl rfl [_] ⟨h0, trivial⟩ ?_
          refine (H1.out _ hq).mono ?_
          rintro e w' ⟨v', rfl, hown, hx'⟩
          obtain ⟨A9, c9, rfl, hc9, hs9⟩ := hown.form
          exact ⟨_, rfl, hx', A9, c9, rfl, hc9, hs9⟩
        · intro wq hq hd
          refine ob_plain rfl ?_
          exact yld_field 27 0 (.tmp 3) rfl _ Tryd.underlying27 _ rfl 3 Tryd.sizeOf23 (by decide) [.int .i64 ra, .int .i64 ri, .int .i64 rn, .int .i64 rk, .string rl, .slice hdA hz.length hc, .slice wA wd.length wc, .slice (some ⟨b, off, none⟩) rs.length kc] (Hb.out _ (hx26.trans hq))
        · intro wq hq hd
          obtain ⟨h0, -⟩ := hd
          change (TCells [.int .i64 ra, .int .i64 ri, .int .i64 rn]).p (v 2) wq at h0
          refine ob_plain rfl ?_
          exact yld_loadAgg 23 (.tmp 58) rfl Tryd.isAgg23 3 Tryd.sizeOf23 [.int .i64 ra, .int .i64 ri, .int .i64 rn] rfl h0 rfl
        · intro wq hq hd
          refine ob_plain rfl ?_
          exact yld_field 27 5 (.tmp 3) rfl _ Tryd.underlying27 _ rfl 1 Tryd.sizeOf25 (by decide) [.int .i64 ra, .int .i64 ri, .int .i64 rn, .int .i64 rk, .string rl, .slice hdA hz.length hc, .slice wA wd.length wc, .slice (some ⟨b, off, none⟩) rs.length kc] (Hb.out _ (hx26.trans hq))
        · intro wq hq hd
          obtain ⟨h0, -⟩ := hd
          change (TCells [.slice (some ⟨b, off, none⟩) rs.length kc]).p (v 4) wq at h0
          refine ob_plain rfl ?_
          exact yld_loadOne 25 (.tmp 60) rfl Tryd.isAgg25 (c := .slice (some ⟨b, off, none⟩) rs.length kc) h0 rfl
        · intro wq hq hd
          refine ob_plain rfl ?_
          exact yld_move (.tmp 1) rfl rfl rfl
        · intro wq hq hd
          obtain ⟨h0, h1, -⟩ := hd
          change v 5 = _ at h0
          change v 6 = _ at h1
          refine ob_plain rfl ?_
          exact yld_indexAt unitEl (.tmp 61) (.tmp 62) rfl (some ⟨b, off, none⟩) rs kc h0 n h1 (hks.ext (hx26.trans hq)) q Hq.out
        · intro wq hq hd
          obtain ⟨h0, -⟩ := hd
          change (TCells [.int .i64 q.a, .int .i64 q.i, .int .i64 q.n, .int .i64 q.kind, .string q.label, .slice q.hA q.hn q.hc, .slice q.wA q.wn q.wc, .slice q.kA q.kn q.kc]).p (v 7) wq at h0
          refine ob_plain rfl ?_
          exact yld_field 27 2 (.tmp 63) rfl _ Tryd.underlying27 _ rfl 1 Tryd.sizeOf9 (by decide) [.int .i64 q.a, .int .i64 q.i, .int .i64 q.n, .int .i64 q.kind, .string q.label, .slice q.hA q.hn q.hc, .slice q.wA q.wn q.wc, .slice q.kA q.kn q.kc] (h0)
        · intro wq hq hd
          obtain ⟨h0, -⟩ := hd
          change (TCells [.string q.label]).p (v 8) wq at h0
          refine ob_plain rfl ?_
          exact yld_loadOne 9 (.tmp 64) rfl Tryd.isAgg9 (c := .string q.label) h0 rfl
        · intro wq hq hd
          obtain ⟨h0, h1, h2, h3, -⟩ := hd
          change (TSl findEl [(⟨j, ra, ri, rn, 4, q.label⟩ : GFind)]).p (v 1) wq at h0
          change v 3 = _ at h1
          change v 9 = _ at h2
          refine ob_plain rfl ?_
          obtain ⟨A1, c1, g1, g2, g3⟩ := h0
          refine yld_call 29 Tryd.call29 _ _ rfl rfl [_, _, _, _] ⟨g1, rfl, h1, h2, trivial⟩ ?_
          refine (has_one A1 c1 ⟨j, ra, ri, rn, 4, q.label⟩ _ g3).mono ?_
          rintro e w' ⟨rfl, hx'⟩
          exact ⟨_, rfl, hx', rfl⟩
        · intro wq hq hd
          obtain ⟨h0, h1, h2, h3, h4, h5, h6, h7, h8, h9, h10, h11, h12, -⟩ := hd
          change v 10 = _ at h0
          refine ob_plain rfl ?_
          exact yld_assign (.tmp 66) rfl h0 rfl
        · intro wq hq hT
          have k11 := hT 11 (by decide)
          change v 11 = _ at k11
          clear hT
          simp only [List.drop_succ_cons, List.drop_zero, putE, setsE, List.set_cons_succ, List.set_cons_zero, Nat.reduceAdd]
          rw [k11]
          go_wp2
          go_ret
          exact ⟨rfl, hw0.trans (hx26.trans hq)⟩
    by_cases h1 : how = 1
    case pos =>
      subst h1
      clear h0
      by_cases hn : n < wd.length
      case neg =>
        have hge : wd.length ≤ n := by omega
        clear hn
        go_wp2_with (refine wpList_put rfl 27 (.tmp 7) (.tmp 25) rfl w3.heap.size 0 (.agg (RUnit.cells ⟨ra, ri, rn, rk, rl, hdA, hz.length, hc, wA, wd.length, wc, kA, rs.length, kc⟩).toArray) rfl rfl (RUnit.cells ⟨ra, ri, rn, rk, rl, hdA, hz.length, hc, wA, wd.length, wc, kA, rs.length, kc⟩) rfl Tryd.sizeOf27 (unitEl.h1 _) 27 _ (heap_alloc_new w3 _) (by simp [RUnit.cells]) ?_; intro w4 hwp hosp htpp houp hsp hbkp; have hbw4 : w4.heap[w3.heap.size]? = some (.cells (RUnit.cells ⟨ra, ri, rn, rk, rl, hdA, hz.length, hc, wA, wd.length, wc, kA, rs.length, kc⟩).toArray 27 (0, 0)) := hbkp.trans (by simp [RUnit.cells]); have hxw4 : Ext w3 w4 := ((Ext.refl w3).alloc _).put (Nat.le_refl _) hwp hosp htpp houp hsp; clear hwp hosp htpp houp hsp hbkp; have hx24 : Ext w2 w4 := hx3.trans hxw4; clear u0 u1 u2 u3 u4 u5 u6 u7; obtain ⟨-, u0, u1, u2, u3, u4, u5, u6, u7⟩ := Hbq.out w4 hx24)
        go_wp2
        go_ret
        exact ⟨rfl, hw0.trans hx24⟩
      obtain ⟨b, off, rfl, hb, -⟩ := wordAt hws hn
      have hwsA := hws
      obtain ⟨x, hx⟩ : ∃ x, wd[n] = x := ⟨_, rfl⟩
      have Hg := Lib.hid (show ∀ w', Ext w2 w' → w'.cell? ⟨b, off + n * 4, none⟩ = some (.string x.t) from fun w' he => by rw [← hx]; exact wordAt2 (hws.ext he) n hn)
      have hsx : x.t.size ≤ 100 := by rw [← hx]; exact Hok.out.short.1 _ (List.getElem_mem hn)
      have hwdE : wd = wd.take n ++ x :: wd.drop (n + 1) := by rw [← hx, ← List.drop_eq_getElem_cons hn, List.take_append_drop]
      have hloss := fun hb => lose_call Hck.out hwdE hb
      have Hpa := Lib.hid (fun w => parseAnchor_any x.t w (by omega))
      simp only [show RetAnc x.t = fun w e w' => e = .returned (.tuple #[.string (ancT x.t), .bool (ancB x.t)]) ∧ Ext w w' from rfl] at Hpa
      have hcd := fun wq (he : Ext w2 wq) => called_any _ _ (ancT x.t) wq (Hr.out wq he) (by simp only [GUnit.kids]; have := Hrl.out; omega)
      simp only [RUnit.cells, GUnit.kids] at hcd
      obtain ⟨T, hT⟩ : ∃ T, ancT x.t = T := ⟨_, rfl⟩
      obtain ⟨B, hB⟩ : ∃ B, ancB x.t = B := ⟨_, rfl⟩
      rw [hT, hB] at Hpa
      rw [hT, hB] at hloss
      rw [hT] at hcd
      have Hloss := Lib.hid hloss
      have Hcd := Lib.hid hcd
      have HwdE := Lib.hid hwdE
      have hge : ¬ wd.length ≤ n := by omega
      clear hT hB hx hloss hcd hwdE hsx
      go_wp2_with (refine wpList_put rfl 27 (.tmp 7) (.tmp 25) rfl w3.heap.size 0 (.agg (RUnit.cells ⟨ra, ri, rn, rk, rl, hdA, hz.length, hc, (some ⟨b, off, none⟩), wd.length, wc, kA, rs.length, kc⟩).toArray) rfl rfl (RUnit.cells ⟨ra, ri, rn, rk, rl, hdA, hz.length, hc, (some ⟨b, off, none⟩), wd.length, wc, kA, rs.length, kc⟩) rfl Tryd.sizeOf27 (unitEl.h1 _) 27 _ (heap_alloc_new w3 _) (by simp [RUnit.cells]) ?_; intro wS hwp hosp htpp houp hsp hbkp; have hbwS : wS.heap[w3.heap.size]? = some (.cells (RUnit.cells ⟨ra, ri, rn, rk, rl, hdA, hz.length, hc, (some ⟨b, off, none⟩), wd.length, wc, kA, rs.length, kc⟩).toArray 27 (0, 0)) := hbkp.trans (by simp [RUnit.cells]); have hxwS : Ext w3 wS := ((Ext.refl w3).alloc _).put (Nat.le_refl _) hwp hosp htpp houp hsp; clear hwp hosp htpp houp hsp hbkp; have hx24 : Ext w2 wS := hx3.trans hxwS; clear u0 u1 u2 u3 u4 u5 u6 u7; obtain ⟨-, u0, u1, u2, u3, u4, u5, u6, u7⟩ := Hbq.out wS hx24; have g3 := Hg.out wS hx24)
      refine (Hpa.out _).mono ?_
      rintro e w4 ⟨rfl, hx5⟩
      have hbw4 := (hx5.block (block_lt hbwS)).trans hbwS
      have hxw4 := hxwS.trans hx5
      have hx24' := hx24.trans hx5
      clear u0 u1 u2 u3 u4 u5 u6 u7 g3 hbwS hxwS hx24 hx5
      have hx24 := hx24'
      clear hx24'
      cases B
      case false =>
        go_wp2
        go_ret
        exact ⟨rfl, hw0.trans hx24⟩
      have hkw := hws.ext hx24
      obtain ⟨-, u0, u1, u2, u3, u4, u5, u6, u7⟩ := Hbq.out w4 hx24
      go_wp2
      clear u0 u1 u2 u3 u4 u5 u6 u7
      refine wp_drawn_tail 11 (fun i => match i with | 0 => TEmpty wordEl w4.heap.size | 1 => TCells [.slice (some ⟨b, off, none⟩) wd.length wc] | 2 => Ty.is (.slice (some ⟨b, off, none⟩) wd.length wc) | 3 => Ty.is (.int .i64 (n : Nat)) | 4 => TSl wordEl (wd.take n) | 5 => TOwn wordEl w4.heap.size (wd.take n) | 6 => TCells [.slice (some ⟨b, off, none⟩) wd.length wc] | 7 => Ty.is (.slice (some ⟨b, off, none⟩) wd.length wc) | 8 => Ty.is (.int .i64 (n : Nat)) | 9 => Ty.is (.int .i64 ((n + 1 : Nat) : Int)) | 10 => TSl wordEl (wd.drop (n + 1)) | _ => Ty.any) (by kernel_rfl) (by kernel_rfl) (by kernel_rfl) (by decide) rfl ?_
      intro v
      refine ⟨?_, ?_, ?_, ?_, ?_, ?_, ?_, ?_, ?_, ?_, ?_, ?_⟩
      · intro wq hq hd
        refine ob_plain rfl ?_
        exact yld_empty wordEl rfl hq.size
      · intro wq hq hd
        refine ob_plain rfl ?_
        exact yld_field 27 4 (.tmp 3) rfl _ Tryd.underlying27 _ rfl 1 Tryd.sizeOf24 (by decide) [.int .i64 ra, .int .i64 ri, .int .i64 rn, .int .i64 rk, .string rl, .slice hdA hz.length hc, .slice (some ⟨b, off, none⟩) wd.length wc, .slice kA rs.length kc] (Hb.out _ (hx24.trans hq))
      · intro wq hq hd
        obtain ⟨h0, -⟩ := hd
        change (TCells [.slice (some ⟨b, off, none⟩) wd.length wc]).p (v 1) wq at h0
        refine ob_plain rfl ?_
        exact yld_loadOne 24 (.tmp 87) rfl Tryd.isAgg24 (c := .slice (some ⟨b, off, none⟩) wd.length wc) h0 rfl
      · intro wq hq hd
        refine ob_plain rfl ?_
        exact yld_move (.tmp 1) rfl rfl rfl
      · intro wq hq hd
        obtain ⟨h0, h1, -⟩ := hd
        change v 2 = _ at h0
        change v 3 = _ at h1
        refine ob_plain rfl ?_
        exact yld_slTo wordEl (.tmp 88) (.tmp 89) rfl wc h0 n h1 (hkw.ext hq) (by omega) (by omega)
      · intro wq hq hd
        obtain ⟨h0, h1, -⟩ := hd
        change (TEmpty wordEl w4.heap.size).p (v 0) wq at h0
        change (TSl wordEl (wd.take n)).p (v 4) wq at h1
        refine ob_plain rfl ?_
        obtain ⟨A0, e0, o0⟩ := h0
        obtain ⟨A1, c1, e1, hc1, s1⟩ := h1
        exact yld_appOwn wordEl (.tmp 86) (.tmp 90) rfl c1 _ A0 e0 (e0 ▸ o0) e1 s1 (by rw [List.length_take]; omega) hq.size
      · intro wq hq hd
        refine ob_plain rfl ?_
        exact yld_field 27 4 (.tmp 3) rfl _ Tryd.underlying27 _ rfl 1 Tryd.sizeOf24 (by decide) [.int .i64 ra, .int .i64 ri, .int .i64 rn, .int .i64 rk, .string rl, .slice hdA hz.length hc, .slice (some ⟨b, off, none⟩) wd.length wc, .slice kA rs.length kc] (Hb.out _ (hx24.trans hq))
      · intro wq hq hd
        obtain ⟨h0, -⟩ := hd
        change (TCells [.slice (some ⟨b, off, none⟩) wd.length wc]).p (v 6) wq at h0
        refine ob_plain rfl ?_
        exact yld_loadOne 24 (.tmp 92) rfl Tryd.isAgg24 (c := .slice (some ⟨b, off, none⟩) wd.length wc) h0 rfl
      · intro wq hq hd
        refine ob_plain rfl ?_
        exact yld_move (.tmp 1) rfl rfl rfl
      · intro wq hq hd
        obtain ⟨h0, -⟩ := hd
        change v 8 = _ at h0
        refine ob_plain rfl ?_
        exact yld_binInt .add 3 3 (.tmp 94) _ rfl _ _ h0 rfl (run_add_i64 _ _ _ (by omega) (by omega)) rfl
      · intro wq hq hd
        obtain ⟨h0, h1, -⟩ := hd
        change v 7 = _ at h0
        change v 9 = _ at h1
        refine ob_plain rfl ?_
        exact yld_slFrom wordEl (.tmp 93) (.tmp 95) rfl wc h0 (n + 1) h1 (hkw.ext hq) (by omega) (by omega)
      · intro wq hq hT
        have k5 := hT 5 (by decide)
        change (TOwn wordEl w4.heap.size (wd.take n)).p (v 5) wq at k5
        have k10 := hT 10 (by decide)
        change (TSl wordEl (wd.drop (n + 1))).p (v 10) wq at k10
        clear hT
        simp only [List.drop_succ_cons, List.drop_zero, putE, setsE, List.set_cons_succ, List.set_cons_zero, Nat.reduceAdd]
        generalize v 5 = x5 at k5 ⊢
        generalize v 10 = x10 at k10 ⊢
        have k5' : Own wordEl w4.heap.size wq x5 (wd.take n) := k5
        obtain ⟨A5, c5, rfl, hc5, -⟩ := k5'.form
        obtain ⟨A10, c10, rfl, hc10, s10⟩ := k10
        go_wp2_with (first | (at_builtin; refine wpList_app wordEl rfl (.tmp 91) (.tmp 96) rfl c10 rfl k5' rfl s10 (by rw [List.length_take, List.length_drop]; omega) hq.size ?_; intro v5 w5 hown5 hb5 hg5; obtain ⟨A6, c6, rfl, hc6, -⟩ := hown5.form; have hx45 : Ext w4 w5 := hq.trans' hb5; have hbv := (hx45.block (block_lt hbw4)).trans hbw4) |
          (refine wpList_fld rfl 27 4 (.tmp 7) rfl _ Tryd.underlying27 _ rfl 1 Tryd.sizeOf24 (by decide) w3.heap.size 0 rfl ?_) |
          (refine wpList_put rfl 24 (.tmp 98) (.tmp 97) rfl w3.heap.size 6 (.slice A6 (wd.take n ++ wd.drop (n + 1)).length c6) rfl rfl [.slice A6 (wd.take n ++ wd.drop (n + 1)).length c6] rfl Tryd.sizeOf24 (by simp [Value.oneCell']) 27 _ hbv (by simp [RUnit.cells]) ?_; intro w6 hw6 hos6 htp6 hou6 hs6 hbk6))
        have hx36 : Ext w3 w6 := (hxw4.trans hx45).put (Nat.le_refl _) hw6 hos6 htp6 hou6 hs6
        have hx26 : Ext w2 w6 := hx3.trans hx36
        have hbv6 : w6.heap[w3.heap.size]? = some (.cells (RUnit.cells ⟨ra, ri, rn, rk, rl, hdA, hz.length, hc, A6, (wd.take n ++ wd.drop (n + 1)).length, c6, kA, rs.length, kc⟩).toArray 27 (0, 0)) := hbk6.trans (by simp [RUnit.cells])
        have h34 := hxw4.size
        have hlt4 := block_lt hbw4
        have hown6 : Own wordEl w4.heap.size w6 (.slice A6 (wd.take n ++ wd.drop (n + 1)).length c6) (wd.take n ++ wd.drop (n + 1)) := hown5.keep fun g hg => hw6 g (by have := (hown5.lt g hg).1; omega)
        obtain ⟨_, _, hv6, hc6', hs6'⟩ := hown6.form
        cases hv6
        have hrd6 : Reads w6 (.mk ra ri rn rk rl hz (wd.take n ++ wd.drop (n + 1)) ks) ⟨ra, ri, rn, rk, rl, hdA, hz.length, hc, A6, (wd.take n ++ wd.drop (n + 1)).length, c6, kA, rs.length, kc⟩ := by
          rw [Reads]
          exact ⟨⟨rfl, rfl, rfl, rfl, rfl⟩, ⟨rfl, hhc, hhs.ext hx26⟩, ⟨rfl, hc6', hs6'⟩, Hrl.out, by rw [← Hrl.out]; exact hkc, rs, hks.ext hx26, ReadsAll.ext hx26 _ _ Hall.out⟩
        have hok6 : OkT (.mk ra ri rn rk rl hz (wd.take n ++ wd.drop (n + 1)) ks) := OkT.words Hok.out (fun y hy => Hok.out.short.1 y (by
          simp only [GUnit.words]
          rcases List.mem_append.1 hy with hy | hy
          · exact List.mem_of_mem_take hy
          · exact List.mem_of_mem_drop hy)) (by rw [List.length_append, List.length_take, List.length_drop]; omega)
        obtain ⟨y, hym, j, hj⟩ := Hloss.out (by trivial)
        have hmk : calledF T ks < ks.length := (List.getElem?_eq_some_iff.1 hym).1
        have hyk : ks[calledF T ks] = y := (List.getElem?_eq_some_iff.1 hym).2
        have hmr : calledF T ks < rs.length := by rw [Hrl.out]; exact hmk
        have hid := reads_id (ReadsAll.get Hall.out _ hmk hmr)
        rw [hyk] at hid
        rw [hid] at hj
        obtain ⟨q, hq0⟩ : ∃ q, rs[calledF T ks]? = some q := ⟨_, List.getElem?_eq_getElem hmr⟩
        have hqk : rs[calledF T ks] = q := (List.getElem?_eq_some_iff.1 hq0).2
        rw [hqk] at hj
        have hl1 := fun wq (he : Ext w6 wq) => check_any _ _ wq (Reads.ext he _ _ hrd6) hok6
        rw [hj] at hl1
        simp only [RUnit.cells] at hl1
        obtain ⟨m, hm⟩ : ∃ m, calledF T ks = m := ⟨_, rfl⟩
        rw [hm] at Hcd hq0
        have Hq := Lib.hid hq0
        have H1 := Lib.hid hl1
        have Hv := Lib.hid (show ∀ w', Ext w6 w' → (TCells [.int .i64 ra, .int .i64 ri, .int .i64 rn, .int .i64 rk, .string rl, .slice hdA hz.length hc, .slice A6 (wd.take n ++ wd.drop (n + 1)).length c6, .slice kA rs.length kc]).p (.pointer (some ⟨w3.heap.size, 0, none⟩)) w' from fun w' he => blockT hbv6 (block_lt hbv6) he)
        clear hl1 hj hrd6 hok6 hown6 hown5 hb5 hg5 hbv hbv6 hbk6 hw6 hs6' k5' k5 s10 hc10 hq0 hqk hid hyk hym hm hmk hmr
        go_wp2
        refine wp_drawn (by kernel_rfl) (fun i => match i with | 0 => Ty.is (.agg #[.int .i64 ra, .int .i64 ri, .int .i64 rn, .int .i64 rk, .string rl, .slice hdA hz.length hc, .slice A6 (wd.take n ++ wd.drop (n + 1)).length c6, .slice kA rs.length kc]) | 1 => TSl findEl [(⟨j, q.a, q.i, q.n, 7, T⟩ : GFind)] | 2 => TCells [.slice kA rs.length kc] | 3 => Ty.is (.slice kA rs.length kc) | 4 => Ty.is (.agg #[.int .i64 ra, .int .i64 ri, .int .i64 rn, .int .i64 rk, .string rl, .slice hdA hz.length hc, .slice (some ⟨b, off, none⟩) wd.length wc, .slice kA rs.length kc]) | 5 => Ty.is (.string T) | 6 => Ty.is (.int .i64 (m : Nat)) | 7 => TCells [.int .i64 q.a, .int .i64 q.i, .int .i64 q.n, .int .i64 q.kind, .string q.label, .slice q.hA q.hn q.hc, .slice q.wA q.wn q.wc, .slice q.kA q.kn q.kc] | 8 => TCells [.int .i64 q.a, .int .i64 q.i, .int .i64 q.n] | 9 => Ty.is (.agg #[.int .i64 q.a, .int .i64 q.i, .int .i64 q.n]) | 10 => Ty.is (.string T) | 11 => Ty.is (.bool true) | 12 => Ty.is (.bool true) | _ => Ty.any) (by kernel_rfl) rfl ?_
        intro v
        refine ⟨?_, ?_, ?_, ?_, ?_, ?_, ?_, ?_, ?_, ?_, ?_, ?_, ?_, ?_⟩
        · intro wq hq hd
          refine ob_plain rfl ?_
          exact yld_loadAgg 27 (.tmp 7) rfl Tryd.isAgg27 8 Tryd.sizeOf27 [.int .i64 ra, .int .i64 ri, .int .i64 rn, .int .i64 rk, .string rl, .slice hdA hz.length hc, .slice A6 (wd.take n ++ wd.drop (n + 1)).length c6, .slice kA rs.length kc] rfl (Hv.out _ hq) rfl
        · intro wq hq hd
          obtain ⟨h0, -⟩ := hd
          change v 0 = _ at h0
          refine ob_plain rfl ?_
          refine yld_call 19 Tryd.call19 _ _ rfl rfl [_] ⟨h0, trivial⟩ ?_
          refine (H1.out _ hq).mono ?_
          rintro e w' ⟨v', rfl, hown, hx'⟩
          obtain ⟨A9, c9, rfl, hc9, hs9⟩ := hown.form
          exact ⟨_, rfl, hx', A9, c9, rfl, hc9, hs9⟩
        · intro wq hq hd
          refine ob_plain rfl ?_
          exact yld_field 27 5 (.tmp 3) rfl _ Tryd.underlying27 _ rfl 1 Tryd.sizeOf25 (by decide) [.int .i64 ra, .int .i64 ri, .int .i64 rn, .int .i64 rk, .string rl, .slice hdA hz.length hc, .slice (some ⟨b, off, none⟩) wd.length wc, .slice kA rs.length kc] (Hb.out _ (hx26.trans hq))
        · intro wq hq hd
          obtain ⟨h0, -⟩ := hd
          change (TCells [.slice kA rs.length kc]).p (v 2) wq at h0
          refine ob_plain rfl ?_
          exact yld_loadOne 25 (.tmp 101) rfl Tryd.isAgg25 (c := .slice kA rs.length kc) h0 rfl
        · intro wq hq hd
          refine ob_plain rfl ?_
          exact yld_loadAgg 27 (.tmp 3) rfl Tryd.isAgg27 8 Tryd.sizeOf27 [.int .i64 ra, .int .i64 ri, .int .i64 rn, .int .i64 rk, .string rl, .slice hdA hz.length hc, .slice (some ⟨b, off, none⟩) wd.length wc, .slice kA rs.length kc] rfl (Hb.out _ (hx26.trans hq)) rfl
        · intro wq hq hd
          refine ob_plain rfl ?_
          exact yld_move (.tmp 8) rfl rfl rfl
        · intro wq hq hd
          obtain ⟨h0, h1, h2, -⟩ := hd
          change v 4 = _ at h0
          change v 5 = _ at h1
          refine ob_plain rfl ?_
          refine yld_call 30 Tryd.call30 _ _ rfl rfl [_, _] ⟨h0, h1, trivial⟩ ?_
          refine (Hcd.out _ (hx26.trans hq)).mono ?_
          rintro e w' ⟨rfl, hx'⟩
          exact ⟨_, rfl, hx', rfl⟩
        · intro wq hq hd
          obtain ⟨h0, h1, -⟩ := hd
          change v 3 = _ at h0
          change v 6 = _ at h1
          refine ob_plain rfl ?_
          exact yld_indexAt unitEl (.tmp 102) (.tmp 105) rfl kA rs kc h0 m h1 (hks.ext (hx26.trans hq)) q Hq.out
        · intro wq hq hd
          obtain ⟨h0, -⟩ := hd
          change (TCells [.int .i64 q.a, .int .i64 q.i, .int .i64 q.n, .int .i64 q.kind, .string q.label, .slice q.hA q.hn q.hc, .slice q.wA q.wn q.wc, .slice q.kA q.kn q.kc]).p (v 7) wq at h0
          refine ob_plain rfl ?_
          exact yld_field 27 0 (.tmp 106) rfl _ Tryd.underlying27 _ rfl 3 Tryd.sizeOf23 (by decide) [.int .i64 q.a, .int .i64 q.i, .int .i64 q.n, .int .i64 q.kind, .string q.label, .slice q.hA q.hn q.hc, .slice q.wA q.wn q.wc, .slice q.kA q.kn q.kc] (h0)
        · intro wq hq hd
          obtain ⟨h0, -⟩ := hd
          change (TCells [.int .i64 q.a, .int .i64 q.i, .int .i64 q.n]).p (v 8) wq at h0
          refine ob_plain rfl ?_
          exact yld_loadAgg 23 (.tmp 107) rfl Tryd.isAgg23 3 Tryd.sizeOf23 [.int .i64 q.a, .int .i64 q.i, .int .i64 q.n] rfl h0 rfl
        · intro wq hq hd
          refine ob_plain rfl ?_
          exact yld_move (.tmp 8) rfl rfl rfl
        · intro wq hq hd
          obtain ⟨h0, h1, h2, h3, -⟩ := hd
          change (TSl findEl [(⟨j, q.a, q.i, q.n, 7, T⟩ : GFind)]).p (v 1) wq at h0
          change v 9 = _ at h1
          change v 10 = _ at h2
          refine ob_plain rfl ?_
          obtain ⟨A1, c1, g1, g2, g3⟩ := h0
          refine yld_call 29 Tryd.call29 _ _ rfl rfl [_, _, _, _] ⟨g1, rfl, h1, h2, trivial⟩ ?_
          refine (has_one A1 c1 ⟨j, q.a, q.i, q.n, 7, T⟩ _ g3).mono ?_
          rintro e w' ⟨rfl, hx'⟩
          exact ⟨_, rfl, hx', rfl⟩
        · intro wq hq hd
          obtain ⟨h0, h1, h2, h3, h4, h5, h6, h7, h8, h9, h10, h11, h12, h13, -⟩ := hd
          change v 11 = _ at h0
          refine ob_plain rfl ?_
          exact yld_assign (.tmp 110) rfl h0 rfl
        · intro wq hq hT
          have k12 := hT 12 (by decide)
          change v 12 = _ at k12
          clear hT
          simp only [List.drop_succ_cons, List.drop_zero, putE, setsE, List.set_cons_succ, List.set_cons_zero, Nat.reduceAdd]
          rw [k12]
          go_wp2
          go_ret
          exact ⟨rfl, hw0.trans (hx26.trans hq)⟩
    by_cases h2 : how = 2
    case pos =>
      subst h2
      clear h0 h1
      have hanc : ancB ⟨#[94, 55]⟩ = true ∧ ancT ⟨#[94, 55]⟩ = ⟨#[55]⟩ := by decide
      have hmore := more_call Hck.out (x := ⟨⟨#[94, 55]⟩, 0, 0, 0⟩) hanc.1
      simp only [hanc.2] at hmore
      have hcd := fun wq (he : Ext w2 wq) => called_any _ _ ⟨#[55]⟩ wq (Hr.out wq he) (by simp only [GUnit.kids]; have := Hrl.out; omega)
      simp only [RUnit.cells, GUnit.kids] at hcd
      obtain ⟨m, hm⟩ : ∃ m, calledF ⟨#[55]⟩ ks = m := ⟨_, rfl⟩
      rw [hm, ← Hrl.out] at hmore
      rw [hm] at hcd
      have Hcd := Lib.hid hcd
      have Hmore := Lib.hid hmore
      clear hanc hmore hcd hm
      go_wp2_with (first | (refine wpList_put rfl 27 (.tmp 7) (.tmp 25) rfl w3.heap.size 0 (.agg (RUnit.cells ⟨ra, ri, rn, rk, rl, hdA, hz.length, hc, wA, wd.length, wc, kA, rs.length, kc⟩).toArray) rfl rfl (RUnit.cells ⟨ra, ri, rn, rk, rl, hdA, hz.length, hc, wA, wd.length, wc, kA, rs.length, kc⟩) rfl Tryd.sizeOf27 (unitEl.h1 _) 27 _ (heap_alloc_new w3 _) (by simp [RUnit.cells]) ?_; intro w4 hwp hosp htpp houp hsp hbkp; have hbw4 : w4.heap[w3.heap.size]? = some (.cells (RUnit.cells ⟨ra, ri, rn, rk, rl, hdA, hz.length, hc, wA, wd.length, wc, kA, rs.length, kc⟩).toArray 27 (0, 0)) := hbkp.trans (by simp [RUnit.cells]); have hxw4 : Ext w3 w4 := ((Ext.refl w3).alloc _).put (Nat.le_refl _) hwp hosp htpp houp hsp; clear hwp hosp htpp houp hsp hbkp; have hx24 : Ext w2 w4 := hx3.trans hxw4; clear u0 u1 u2 u3 u4 u5 u6 u7; obtain ⟨-, u0, u1, u2, u3, u4, u5, u6, u7⟩ := Hbq.out w4 hx24; obtain ⟨-, -, -, -, -, -, -, u6a, -⟩ := Hbq.out (w4.alloc (.cells #[] 52)) (hx24.alloc _)) | (at_builtin; refine wpList_app wordEl rfl (.tmp 113) (.tmp 115) rfl wc rfl (Own.made wordEl (w := w4) (base := w4.heap.size) (Nat.le_refl _)) rfl (hws.ext (hx24.alloc _)) (by simp; omega) (by simp) ?_; intro v5 w5 hown5 hb5 hg5; simp only [List.nil_append] at hown5; obtain ⟨A5, c5, rfl, hc5, -⟩ := hown5.form; have hx45 : Ext w4 w5 := ((Ext.refl w4).alloc _).trans' hb5) |
        (at_builtin; refine wpList_app wordEl rfl (.tmp 116) (.tmp 118) rfl 1 rfl (hown5.ext ((Ext.refl _).alloc _)) (ys := [⟨⟨#[94, 55]⟩, 0, 0, 0⟩]) rfl (Sl.new wordEl rfl) (by simp; omega) (by have := hx45.size; simp; omega) ?_; intro v7 w7 hown7 hb7 hg7; obtain ⟨A6, c6, rfl, hc6, -⟩ := hown7.form; have hx47 : Ext w4 w7 := (hx45.trans ((Ext.refl _).alloc _)).trans' hb7; have hbv := (hx47.block (block_lt hbw4)).trans hbw4) |
        (refine wpList_fld rfl 27 4 (.tmp 7) rfl _ Tryd.underlying27 _ rfl 1 Tryd.sizeOf24 (by decide) w3.heap.size 0 rfl ?_) |
        (refine wpList_put rfl 24 (.tmp 120) (.tmp 119) rfl w3.heap.size 6 (.slice A6 (wd ++ [(⟨⟨#[94, 55]⟩, 0, 0, 0⟩ : GWord)]).length c6) rfl rfl [.slice A6 (wd ++ [(⟨⟨#[94, 55]⟩, 0, 0, 0⟩ : GWord)]).length c6] rfl Tryd.sizeOf24 (by simp [Value.oneCell']) 27 _ hbv (by simp [RUnit.cells]) ?_; intro w6 hw6 hos6 htp6 hou6 hs6 hbk6))
      have hx36 : Ext w3 w6 := (hxw4.trans hx47).put (Nat.le_refl _) hw6 hos6 htp6 hou6 hs6
      have hx26 : Ext w2 w6 := hx3.trans hx36
      have hbv6 : w6.heap[w3.heap.size]? = some (.cells (RUnit.cells ⟨ra, ri, rn, rk, rl, hdA, hz.length, hc, A6, (wd ++ [(⟨⟨#[94, 55]⟩, 0, 0, 0⟩ : GWord)]).length, c6, kA, rs.length, kc⟩).toArray 27 (0, 0)) := hbk6.trans (by simp [RUnit.cells])
      have h34 := hxw4.size
      have hlt4 := block_lt hbw4
      have hown6 : Own wordEl w4.heap.size w6 (.slice A6 (wd ++ [(⟨⟨#[94, 55]⟩, 0, 0, 0⟩ : GWord)]).length c6) (wd ++ [(⟨⟨#[94, 55]⟩, 0, 0, 0⟩ : GWord)]) := hown7.keep fun g hg => hw6 g (by have := (hown7.lt g hg).1; omega)
      obtain ⟨_, _, hv6, hc6', hs6'⟩ := hown6.form
      cases hv6
      have hrd6 : Reads w6 (.mk ra ri rn rk rl hz (wd ++ [(⟨⟨#[94, 55]⟩, 0, 0, 0⟩ : GWord)]) ks) ⟨ra, ri, rn, rk, rl, hdA, hz.length, hc, A6, (wd ++ [(⟨⟨#[94, 55]⟩, 0, 0, 0⟩ : GWord)]).length, c6, kA, rs.length, kc⟩ := by
        rw [Reads]
        exact ⟨⟨rfl, rfl, rfl, rfl, rfl⟩, ⟨rfl, hhc, hhs.ext hx26⟩, ⟨rfl, hc6', hs6'⟩, Hrl.out, by rw [← Hrl.out]; exact hkc, rs, hks.ext hx26, ReadsAll.ext hx26 _ _ Hall.out⟩
      have hok6 : OkT (.mk ra ri rn rk rl hz (wd ++ [(⟨⟨#[94, 55]⟩, 0, 0, 0⟩ : GWord)]) ks) := OkT.words Hok.out (fun y hy => by
        rcases List.mem_append.1 hy with hy | hy
        · exact Hok.out.short.1 y hy
        · rw [List.mem_singleton] at hy
          subst hy
          decide) (by rw [List.length_append, List.length_singleton]; omega)
      obtain ⟨j, hj⟩ := Hmore.out
      have hl1 := fun wq (he : Ext w6 wq) => check_any _ _ wq (Reads.ext he _ _ hrd6) hok6
      rw [hj] at hl1
      simp only [RUnit.cells] at hl1
      have H1 := Lib.hid hl1
      have Hv := Lib.hid (show ∀ w', Ext w6 w' → (TCells [.int .i64 ra, .int .i64 ri, .int .i64 rn, .int .i64 rk, .string rl, .slice hdA hz.length hc, .slice A6 (wd ++ [(⟨⟨#[94, 55]⟩, 0, 0, 0⟩ : GWord)]).length c6, .slice kA rs.length kc]).p (.pointer (some ⟨w3.heap.size, 0, none⟩)) w' from fun w' he => blockT hbv6 (block_lt hbv6) he)
      clear hl1 hj hrd6 hok6 hown6 hown5 hown7 hb5 hg5 hb7 hg7 hbv hbv6 hbk6 hw6 hs6' u0 u1 u2 u3 u4 u5 u6 u7 u6a
      go_wp2
      refine wp_drawn (by kernel_rfl) (fun i => match i with | 0 => Ty.is (.agg #[.int .i64 ra, .int .i64 ri, .int .i64 rn, .int .i64 rk, .string rl, .slice hdA hz.length hc, .slice wA wd.length wc, .slice kA rs.length kc]) | 1 => Ty.is (.int .i64 (m : Nat)) | 2 => TCells [.slice kA rs.length kc] | 3 => Ty.is (.slice kA rs.length kc) | 4 => Ty.is (.int .i64 rs.length) | 5 => Ty.is (.bool (decide (((m : Nat) : Int) < rs.length))) | _ => Ty.any) (by kernel_rfl) rfl ?_
      intro v
      refine ⟨?_, ?_, ?_, ?_, ?_, ?_, ?_⟩
      · intro wq hq hd
        refine ob_plain rfl ?_
        exact yld_loadAgg 27 (.tmp 3) rfl Tryd.isAgg27 8 Tryd.sizeOf27 [.int .i64 ra, .int .i64 ri, .int .i64 rn, .int .i64 rk, .string rl, .slice hdA hz.length hc, .slice wA wd.length wc, .slice kA rs.length kc] rfl (Hb.out _ (hx26.trans hq)) rfl
      · intro wq hq hd
        obtain ⟨h0, -⟩ := hd
        change v 0 = _ at h0
        refine ob_plain rfl ?_
        refine yld_call 30 Tryd.call30 _ _ rfl rfl [_, _] ⟨h0, rfl, trivial⟩ ?_
        refine (Hcd.out _ (hx26.trans hq)).mono ?_
        rintro e w' ⟨rfl, hx'⟩
        exact ⟨_, rfl, hx', rfl⟩
      · intro wq hq hd
        refine ob_plain rfl ?_
        exact yld_field 27 5 (.tmp 3) rfl _ Tryd.underlying27 _ rfl 1 Tryd.sizeOf25 (by decide) [.int .i64 ra, .int .i64 ri, .int .i64 rn, .int .i64 rk, .string rl, .slice hdA hz.length hc, .slice wA wd.length wc, .slice kA rs.length kc] (Hb.out _ (hx26.trans hq))
      · intro wq hq hd
        obtain ⟨h0, -⟩ := hd
        change (TCells [.slice kA rs.length kc]).p (v 2) wq at h0
        refine ob_plain rfl ?_
        exact yld_loadOne 25 (.tmp 123) rfl Tryd.isAgg25 (c := .slice kA rs.length kc) h0 rfl
      · intro wq hq hd
        obtain ⟨h0, -⟩ := hd
        change v 3 = _ at h0
        refine ob_plain rfl ?_
        exact yld_len (.tmp 124) 25 _ Tryd.underlying25 rfl _ _ _ h0 rfl
      · intro wq hq hd
        obtain ⟨h0, h1, -⟩ := hd
        change v 1 = _ at h0
        change v 4 = _ at h1
        refine ob_plain rfl ?_
        exact yld_binInt .lss 3 3 (.tmp 122) (.tmp 125) rfl _ _ h0 h1 (run_lss_i64 _ _ _) rfl
      · intro wq hq hT
        have k5 := hT 5 (by decide)
        change v 5 = _ at k5
        clear hT
        simp only [List.drop_succ_cons, List.drop_zero, putE, setsE, List.set_cons_succ, List.set_cons_zero, Nat.reduceAdd]
        rw [k5]
        obtain ⟨w8, rfl⟩ : ∃ w8, w8 = wq := ⟨_, rfl⟩
        have hx28 := hx26.trans hq
        have hx68 := hq
        clear k5 hq
        by_cases hml : m < rs.length
        case pos =>
          rw [if_pos hml] at H1
          have d1 : decide ((m : Int) < (rs.length : Int)) = true := decide_eq_true (by omega)
          go_wp2
          refine wp_drawn (by kernel_rfl) (fun i => match i with | 0 => Ty.is (.agg #[.int .i64 ra, .int .i64 ri, .int .i64 rn, .int .i64 rk, .string rl, .slice hdA hz.length hc, .slice A6 (wd ++ [(⟨⟨#[94, 55]⟩, 0, 0, 0⟩ : GWord)]).length c6, .slice kA rs.length kc]) | 1 => TSl findEl [(⟨j, ra, ri, rn, 5, ⟨#[55]⟩⟩ : GFind)] | 2 => Ty.is (.int .i64 5) | 3 => TCells [.int .i64 ra, .int .i64 ri, .int .i64 rn] | 4 => Ty.is (.agg #[.int .i64 ra, .int .i64 ri, .int .i64 rn]) | 5 => Ty.is (.bool true) | 6 => Ty.is (.bool true) | _ => Ty.any) (by kernel_rfl) rfl ?_
          intro v
          refine ⟨?_, ?_, ?_, ?_, ?_, ?_, ?_, ?_⟩
          · intro wq hq hd
            refine ob_plain rfl ?_
            exact yld_loadAgg 27 (.tmp 7) rfl Tryd.isAgg27 8 Tryd.sizeOf27 [.int .i64 ra, .int .i64 ri, .int .i64 rn, .int .i64 rk, .string rl, .slice hdA hz.length hc, .slice A6 (wd ++ [(⟨⟨#[94, 55]⟩, 0, 0, 0⟩ : GWord)]).length c6, .slice kA rs.length kc] rfl (Hv.out _ (hx68.trans hq)) rfl
          · intro wq hq hd
            obtain ⟨h0, -⟩ := hd
            change v 0 = _ at h0
            refine ob_plain rfl ?_
            refine yld_call 19 Tryd.call19 _ _ rfl rfl [_] ⟨h0, trivial⟩ ?_
            refine (H1.out _ (hx68.trans hq)).mono ?_
            rintro e w' ⟨v', rfl, hown, hx'⟩
            obtain ⟨A9, c9, rfl, hc9, hs9⟩ := hown.form
            exact ⟨_, rfl, hx', A9, c9, rfl, hc9, hs9⟩
          · intro wq hq hd
            refine ob_plain rfl ?_
            exact yld_move (.tmp 10) rfl rfl rfl
          · intro wq hq hd
            refine ob_plain rfl ?_
            exact yld_field 27 0 (.tmp 3) rfl _ Tryd.underlying27 _ rfl 3 Tryd.sizeOf23 (by decide) [.int .i64 ra, .int .i64 ri, .int .i64 rn, .int .i64 rk, .string rl, .slice hdA hz.length hc, .slice wA wd.length wc, .slice kA rs.length kc] (Hb.out _ (hx28.trans hq))
          · intro wq hq hd
            obtain ⟨h0, -⟩ := hd
            change (TCells [.int .i64 ra, .int .i64 ri, .int .i64 rn]).p (v 3) wq at h0
            refine ob_plain rfl ?_
            exact yld_loadAgg 23 (.tmp 130) rfl Tryd.isAgg23 3 Tryd.sizeOf23 [.int .i64 ra, .int .i64 ri, .int .i64 rn] rfl h0 rfl
          · intro wq hq hd
            obtain ⟨h0, h1, h2, h3, -⟩ := hd
            change (TSl findEl [(⟨j, ra, ri, rn, 5, ⟨#[55]⟩⟩ : GFind)]).p (v 1) wq at h0
            change v 2 = _ at h1
            change v 4 = _ at h2
            refine ob_plain rfl ?_
            obtain ⟨A1, c1, g1, g2, g3⟩ := h0
            refine yld_call 29 Tryd.call29 _ _ rfl rfl [_, _, _, _] ⟨g1, h1, h2, rfl, trivial⟩ ?_
            refine (has_one A1 c1 ⟨j, ra, ri, rn, 5, ⟨#[55]⟩⟩ _ g3).mono ?_
            rintro e w' ⟨rfl, hx'⟩
            exact ⟨_, rfl, hx', rfl⟩
          · intro wq hq hd
            obtain ⟨h0, h1, h2, h3, h4, h5, h6, h7, -⟩ := hd
            change v 5 = _ at h0
            refine ob_plain rfl ?_
            exact yld_assign (.tmp 132) rfl h0 rfl
          · intro wq hq hT
            have k6 := hT 6 (by decide)
            change v 6 = _ at k6
            clear hT
            simp only [List.drop_succ_cons, List.drop_zero, putE, setsE, List.set_cons_succ, List.set_cons_zero, Nat.reduceAdd]
            rw [k6]
            go_wp2
            go_ret
            exact ⟨rfl, hw0.trans (hx28.trans hq)⟩
        case neg =>
          rw [if_neg hml] at H1
          have d1 : decide ((m : Int) < (rs.length : Int)) = false := decide_eq_false (by omega)
          go_wp2
          refine wp_drawn (by kernel_rfl) (fun i => match i with | 0 => Ty.is (.agg #[.int .i64 ra, .int .i64 ri, .int .i64 rn, .int .i64 rk, .string rl, .slice hdA hz.length hc, .slice A6 (wd ++ [(⟨⟨#[94, 55]⟩, 0, 0, 0⟩ : GWord)]).length c6, .slice kA rs.length kc]) | 1 => TSl findEl [(⟨j, ra, ri, rn, 4, ⟨#[55]⟩⟩ : GFind)] | 2 => Ty.is (.int .i64 4) | 3 => TCells [.int .i64 ra, .int .i64 ri, .int .i64 rn] | 4 => Ty.is (.agg #[.int .i64 ra, .int .i64 ri, .int .i64 rn]) | 5 => Ty.is (.bool true) | 6 => Ty.is (.bool true) | _ => Ty.any) (by kernel_rfl) rfl ?_
          intro v
          refine ⟨?_, ?_, ?_, ?_, ?_, ?_, ?_, ?_⟩
          · intro wq hq hd
            refine ob_plain rfl ?_
            exact yld_loadAgg 27 (.tmp 7) rfl Tryd.isAgg27 8 Tryd.sizeOf27 [.int .i64 ra, .int .i64 ri, .int .i64 rn, .int .i64 rk, .string rl, .slice hdA hz.length hc, .slice A6 (wd ++ [(⟨⟨#[94, 55]⟩, 0, 0, 0⟩ : GWord)]).length c6, .slice kA rs.length kc] rfl (Hv.out _ (hx68.trans hq)) rfl
          · intro wq hq hd
            obtain ⟨h0, -⟩ := hd
            change v 0 = _ at h0
            refine ob_plain rfl ?_
            refine yld_call 19 Tryd.call19 _ _ rfl rfl [_] ⟨h0, trivial⟩ ?_
            refine (H1.out _ (hx68.trans hq)).mono ?_
            rintro e w' ⟨v', rfl, hown, hx'⟩
            obtain ⟨A9, c9, rfl, hc9, hs9⟩ := hown.form
            exact ⟨_, rfl, hx', A9, c9, rfl, hc9, hs9⟩
          · intro wq hq hd
            refine ob_plain rfl ?_
            exact yld_move (.tmp 10) rfl rfl rfl
          · intro wq hq hd
            refine ob_plain rfl ?_
            exact yld_field 27 0 (.tmp 3) rfl _ Tryd.underlying27 _ rfl 3 Tryd.sizeOf23 (by decide) [.int .i64 ra, .int .i64 ri, .int .i64 rn, .int .i64 rk, .string rl, .slice hdA hz.length hc, .slice wA wd.length wc, .slice kA rs.length kc] (Hb.out _ (hx28.trans hq))
          · intro wq hq hd
            obtain ⟨h0, -⟩ := hd
            change (TCells [.int .i64 ra, .int .i64 ri, .int .i64 rn]).p (v 3) wq at h0
            refine ob_plain rfl ?_
            exact yld_loadAgg 23 (.tmp 130) rfl Tryd.isAgg23 3 Tryd.sizeOf23 [.int .i64 ra, .int .i64 ri, .int .i64 rn] rfl h0 rfl
          · intro wq hq hd
            obtain ⟨h0, h1, h2, h3, -⟩ := hd
            change (TSl findEl [(⟨j, ra, ri, rn, 4, ⟨#[55]⟩⟩ : GFind)]).p (v 1) wq at h0
            change v 2 = _ at h1
            change v 4 = _ at h2
            refine ob_plain rfl ?_
            obtain ⟨A1, c1, g1, g2, g3⟩ := h0
            refine yld_call 29 Tryd.call29 _ _ rfl rfl [_, _, _, _] ⟨g1, h1, h2, rfl, trivial⟩ ?_
            refine (has_one A1 c1 ⟨j, ra, ri, rn, 4, ⟨#[55]⟩⟩ _ g3).mono ?_
            rintro e w' ⟨rfl, hx'⟩
            exact ⟨_, rfl, hx', rfl⟩
          · intro wq hq hd
            obtain ⟨h0, h1, h2, h3, h4, h5, h6, h7, -⟩ := hd
            change v 5 = _ at h0
            refine ob_plain rfl ?_
            exact yld_assign (.tmp 132) rfl h0 rfl
          · intro wq hq hT
            have k6 := hT 6 (by decide)
            change v 6 = _ at k6
            clear hT
            simp only [List.drop_succ_cons, List.drop_zero, putE, setsE, List.set_cons_succ, List.set_cons_zero, Nat.reduceAdd]
            rw [k6]
            go_wp2
            go_ret
            exact ⟨rfl, hw0.trans (hx28.trans hq)⟩
    have d1 : (how == 0) = false := by simp [h0]
    have d2 : (how == 1) = false := by simp [h1]
    have d3 : (how == 2) = false := by simp [h2]
    clear h0 h1 h2
    go_wp2_with (refine wpList_put rfl 27 (.tmp 7) (.tmp 25) rfl w3.heap.size 0 (.agg (RUnit.cells ⟨ra, ri, rn, rk, rl, hdA, hz.length, hc, wA, wd.length, wc, kA, rs.length, kc⟩).toArray) rfl rfl (RUnit.cells ⟨ra, ri, rn, rk, rl, hdA, hz.length, hc, wA, wd.length, wc, kA, rs.length, kc⟩) rfl Tryd.sizeOf27 (unitEl.h1 _) 27 _ (heap_alloc_new w3 _) (by simp [RUnit.cells]) ?_; intro w4 hwp hosp htpp houp hsp hbkp; have hbw4 : w4.heap[w3.heap.size]? = some (.cells (RUnit.cells ⟨ra, ri, rn, rk, rl, hdA, hz.length, hc, wA, wd.length, wc, kA, rs.length, kc⟩).toArray 27 (0, 0)) := hbkp.trans (by simp [RUnit.cells]); have hxw4 : Ext w3 w4 := ((Ext.refl w3).alloc _).put (Nat.le_refl _) hwp hosp htpp houp hsp; clear hwp hosp htpp houp hsp hbkp; have hx24 : Ext w2 w4 := hx3.trans hxw4; clear u0 u1 u2 u3 u4 u5 u6 u7; obtain ⟨-, u0, u1, u2, u3, u4, u5, u6, u7⟩ := Hbq.out w4 hx24)
    go_wp2
    go_ret
    exact ⟨rfl, hw0.trans hx24⟩

end Go.Proofs.YtiacmahfjcolaaaDoor
