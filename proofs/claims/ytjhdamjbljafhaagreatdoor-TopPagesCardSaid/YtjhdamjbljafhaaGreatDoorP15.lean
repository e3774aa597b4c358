/- slices.Clone of words and of units; trees in blocks of their own while memory grows. unit.copied: a deep copy of a unit, each part in blocks of its own. -/
import Derived.Test.YtjhdamjbljafhaaGreatDoorP06
import Derived.Test.YtjhdamjbljafhaaGreatDoorP14
namespace Go.Proofs.YtjhdamjbljafhaaGreatDoor
open Go.RowKit
theorem Sep.mono_lo {w : World} {lo lo' : Nat} (h : lo' ≤ lo) : ∀ (u : GUnit) (r : RUnit) (hi : Nat), Sep w u r lo hi → Sep w u r lo' hi := by
  intro u r hi h2
  obtain ⟨a, i, n, k, l, hd, wd, kids⟩ := u
  rw [Sep] at h2 ⊢
  obtain ⟨h0, m', us, h1, h2, ⟨h3, h4⟩, ⟨h5, h6⟩, ⟨h7, h8⟩, h9⟩ := h2
  exact ⟨h0, m', us, by omega, h2, ⟨h3, h4.mono h (Nat.le_refl _)⟩, ⟨h5, h6.mono h (Nat.le_refl _)⟩, ⟨h7, h8.mono h (Nat.le_refl _)⟩, h9⟩
theorem Sep.ext {w w' : World} (he : Ext w w') {u : GUnit} {r : RUnit} {lo hi : Nat} (hb : hi ≤ w.heap.size) (h : Sep w u r lo hi) : Sep w' u r lo hi := Sep.keep u r lo hi h fun k _ hk => he.block (by omega)
def TSep (lo : Nat) (u : GUnit) : Ty := ⟨fun v w => ∃ (r : RUnit) (hi : Nat), v = .agg r.cells.toArray ∧ Sep w u r lo hi ∧ hi ≤ w.heap.size, fun _ _ _ he ⟨r, hi, h1, h2, h3⟩ => ⟨r, hi, h1, Sep.ext he h3 h2, Nat.le_trans h3 he.size⟩⟩
theorem yld_fld {P : Program} {ρ : Operand → Value} {o : Oper} {w : World} {T : Value → World → Prop} (s f : Nat) (x : Operand) (ho : o.op = .fieldAddr s x f) (fs : Array Field) (hs : P.underlying s = some (.struct fs)) (fld : Field) (hf : fs[f]? = some fld) (m : Nat) (hm : ∀ w, (sizeOf fld.type).run P w = .ok m w) (hm0 : m ≠ 0)
    (b off : Nat) (hx : ρ x = .pointer (some ⟨b, off, none⟩)) (h : T (.pointer (some ⟨b, off + fld.offset, none⟩)) w) : Yld P ρ o w T := by
  have ea : ((⟨b, off, none⟩ : Addr).add fld.offset) = ⟨b, off + fld.offset, none⟩ := by
    unfold Addr.add
    split
    · rename_i h0; simp [h0]
    · rfl
  refine yld_run (w' := w) (v := .pointer (some ⟨b, off + fld.offset, none⟩)) ?_ (Ext.refl _) h
  simp [execOp, ho, hx, Instr.fieldAt, run_underlying hs, hf, Instr.sureAddr, fieldPlace, hm, hm0, ea]
set_option maxRecDepth 100000 in
set_option maxHeartbeats 400000 in
theorem cloneU_any (A : Option Addr) (c : Nat) (l : List RUnit) (w : World) (hs : Sl unitEl w A l) (hn : l.length ≤ 1048576) :
    Calls Tryz.prog 63 #[.slice A l.length c] w (RetOwn unitEl w l) := by
  have hq := fun W => Lib.run_eql_slice_nil (P := Tryz.prog) W 25 27 A l.length c 0 0 Tryz.underlying25
  cases A with
  | none =>
    have h0 : l = [] := by
      cases l with
      | nil => rfl
      | cons x l => obtain ⟨_, _, h, _⟩ := hs (by simp); cases h
    subst h0
    simp only [List.length_nil] at hq
    go_enter Tryz.func63, Tryz.ntmps63
    go_wp2
    go_ret
    exact ⟨_, rfl, Own.nil _, Ext.refl _⟩
  | some ad =>
    go_enter Tryz.func63, Tryz.ntmps63
    go_wp2_with (at_builtin; refine wpList_app unitEl rfl _ _ rfl c rfl (Own.made unitEl (Nat.le_refl _)) rfl (hs.ext ((Ext.refl _).alloc _)) (by simp; omega) (by simp) ?_; intro v' w1 hown' hb1 hg1)
    go_ret
    exact ⟨_, rfl, hown', ((Ext.refl _).alloc _).trans' hb1⟩
set_option maxRecDepth 100000 in
set_option maxHeartbeats 400000 in
theorem cloneW_any (A : Option Addr) (c : Nat) (l : List GWord) (w : World) (hs : Sl wordEl w A l) (hn : l.length ≤ 1048576) :
    Calls Tryz.prog 96 #[.slice A l.length c] w (RetOwn wordEl w l) := by
  have hq := fun W => Lib.run_eql_slice_nil (P := Tryz.prog) W 24 105 A l.length c 0 0 Tryz.underlying24
  cases A with
  | none =>
    have h0 : l = [] := by
      cases l with
      | nil => rfl
      | cons x l => obtain ⟨_, _, h, _⟩ := hs (by simp); cases h
    subst h0
    simp only [List.length_nil] at hq
    go_enter Tryz.func96, Tryz.ntmps96
    go_wp2
    go_ret
    exact ⟨_, rfl, Own.nil _, Ext.refl _⟩
  | some ad =>
    go_enter Tryz.func96, Tryz.ntmps96
    go_wp2_with (at_builtin; refine wpList_app wordEl rfl _ _ rfl c rfl (Own.made wordEl (Nat.le_refl _)) rfl (hs.ext ((Ext.refl _).alloc _)) (by simp; omega) (by simp) ?_; intro v' w1 hown' hb1 hg1)
    go_ret
    exact ⟨_, rfl, hown', ((Ext.refl _).alloc _).trans' hb1⟩
theorem Own.blk {P : Program} {α : Type} {D : El P α} {w : World} {base g n c : Nat} {xs : List α} (h : Own D base w (.slice (some ⟨g, 0, none⟩) n c) xs) : ∃ cur, w.heap[g]? = some (.cells cur D.e (0, 0)) := by
  rcases h.2 with ⟨hv, h0⟩ | ⟨g', cap, cur, hv, hg, hh, hn, hc, hcs, ht⟩
  · cases hv
  · cases hv
    exact ⟨cur, hh⟩
theorem SepL.mono_hi {w : World} {hi hi' : Nat} (hh : hi ≤ hi') : ∀ {us : List GUnit} {rs : List RUnit} {lo : Nat}, SepL w us rs lo hi → SepL w us rs lo hi'
  | [], [], lo, h => by rw [SepL] at h ⊢; exact Nat.le_trans h hh
  | u :: us, r :: rs, lo, h => by
    rw [SepL] at h ⊢
    obtain ⟨m, h1, h2⟩ := h
    exact ⟨m, h1, SepL.mono_hi hh h2⟩
  | [], _ :: _, _, h => by rw [SepL] at h; exact h.elim
  | _ :: _, [], _, h => by rw [SepL] at h; exact h.elim
theorem OkU.lens20 {u : GUnit} (h : OkU u) : AllU (lensLe 1048576 1048576) u := AllU.mono (fun u h => by
  obtain ⟨a, i, n, k, l, hd, wd, kids⟩ := u
  obtain ⟨h1, h2, h3, h4, _⟩ := h
  simp only [GUnit.head, GUnit.words, GUnit.kids] at h2 h3 h4
  exact ⟨by omega, by omega, by omega⟩) u h.all
end Go.Proofs.YtjhdamjbljafhaaGreatDoor
namespace Go.Proofs.YtjhdamjbljafhaaGreatDoor
open Go.RowKit
def CopyUAt (N : Nat) : Prop := ∀ (u : GUnit) (r : RUnit) (w : World), SizeOf.sizeOf u ≤ N → Reads w u r → AllU (lensLe 1048576 1048576) u →
    Calls Tryz.prog 91 #[.agg r.cells.toArray] w fun e w' => ∃ r' : RUnit, e = .returned (.agg r'.cells.toArray) ∧ Ext w w' ∧ Reads (mask (fresh w.heap.size) w') u r'
set_option maxRecDepth 100000 in
set_option maxHeartbeats 3200000 in
theorem copyU_step (N : Nat) (ih : CopyUAt N) : CopyUAt (N + 1) := by
    intro u0 r w hN hr hA
    obtain ⟨a, i, n, kd, lb, hl, wl, kids⟩ := u0
    rw [Reads] at hr
    rw [AllU] at hA
    obtain ⟨⟨hl1, hl2, hl3⟩, hA⟩ := hA
    obtain ⟨⟨ha, hi, hnn, hkd, hlb⟩, ⟨hhn, hhc, hhs⟩, ⟨hwn, hwc, hws⟩, hkn, hkc, us, hus, hall⟩ := hr
    obtain ⟨ra, ri, rn, rk, rl, hdA, hn, hc, wA, wn, wc, kA, kn, kc⟩ := r
    dsimp only at ha hi hnn hkn hkc hus hall hkd hlb hhn hhc hhs hwn hwc hws hl3
    have hul := ReadsAll.length hall
    rw [← hul] at hkn hkc hl3
    subst ha hi hnn hkn hlb hhn hwn hkd
    simp only [RUnit.cells]
    have hx0 : Ext w ((w.alloc (.cells #[.int .i64 ra, .int .i64 ri, .int .i64 rn, .int .i64 rk, .string rl, .slice hdA hl.length hc, .slice wA wl.length wc, .slice kA us.length kc] 27)).alloc (.cells #[.int .i64 0, .int .i64 0, .int .i64 0, .int .i64 0, .string ⟨#[]⟩, .slice none 0 0, .slice none 0 0, .slice none 0 0] 27)) := ((Ext.refl w).alloc _).alloc _
    have hbx : ((w.alloc (.cells #[.int .i64 ra, .int .i64 ri, .int .i64 rn, .int .i64 rk, .string rl, .slice hdA hl.length hc, .slice wA wl.length wc, .slice kA us.length kc] 27)).alloc (.cells #[.int .i64 0, .int .i64 0, .int .i64 0, .int .i64 0, .string ⟨#[]⟩, .slice none 0 0, .slice none 0 0, .slice none 0 0] 27)).heap[w.heap.size]? = some (.cells (RUnit.cells ⟨ra, ri, rn, rk, rl, hdA, hl.length, hc, wA, wl.length, wc, kA, us.length, kc⟩).toArray 27 (0, 0)) := by
      have e := ((Ext.refl (w.alloc (.cells #[.int .i64 ra, .int .i64 ri, .int .i64 rn, .int .i64 rk, .string rl, .slice hdA hl.length hc, .slice wA wl.length wc, .slice kA us.length kc] 27))).alloc (.cells #[.int .i64 0, .int .i64 0, .int .i64 0, .int .i64 0, .string ⟨#[]⟩, .slice none 0 0, .slice none 0 0, .slice none 0 0] 27)).block (k := w.heap.size) (by simp)
      exact e.trans (heap_alloc_new w _)
    have hres : ((w.alloc (.cells #[.int .i64 ra, .int .i64 ri, .int .i64 rn, .int .i64 rk, .string rl, .slice hdA hl.length hc, .slice wA wl.length wc, .slice kA us.length kc] 27)).alloc (.cells #[.int .i64 0, .int .i64 0, .int .i64 0, .int .i64 0, .string ⟨#[]⟩, .slice none 0 0, .slice none 0 0, .slice none 0 0] 27)).heap[w.heap.size + 1]? = some (.cells unit0.cells.toArray 27 (0, 0)) := by
      have e := heap_alloc_new (w.alloc (.cells #[.int .i64 ra, .int .i64 ri, .int .i64 rn, .int .i64 rk, .string rl, .slice hdA hl.length hc, .slice wA wl.length wc, .slice kA us.length kc] 27)) (.cells unit0.cells.toArray 27)
      rw [show (w.alloc (.cells #[.int .i64 ra, .int .i64 ri, .int .i64 rn, .int .i64 rk, .string rl, .slice hdA hl.length hc, .slice wA wl.length wc, .slice kA us.length kc] 27)).heap.size = w.heap.size + 1 from by simp] at e
      exact e
    have hsz : ((w.alloc (.cells #[.int .i64 ra, .int .i64 ri, .int .i64 rn, .int .i64 rk, .string rl, .slice hdA hl.length hc, .slice wA wl.length wc, .slice kA us.length kc] 27)).alloc (.cells #[.int .i64 0, .int .i64 0, .int .i64 0, .int .i64 0, .string ⟨#[]⟩, .slice none 0 0, .slice none 0 0, .slice none 0 0] 27)).heap.size = w.heap.size + 2 := by simp
    obtain ⟨wz, hwz⟩ : ∃ wz, ((w.alloc (.cells #[.int .i64 ra, .int .i64 ri, .int .i64 rn, .int .i64 rk, .string rl, .slice hdA hl.length hc, .slice wA wl.length wc, .slice kA us.length kc] 27)).alloc (.cells #[.int .i64 0, .int .i64 0, .int .i64 0, .int .i64 0, .string ⟨#[]⟩, .slice none 0 0, .slice none 0 0, .slice none 0 0] 27)) = wz := ⟨_, rfl⟩
    rw [hwz] at hx0 hbx hres hsz
    have Hwz := Lib.hid hwz
    have hz1 : w.heap.size + 2 ≤ wz.heap.size := by omega
    have Hb := Lib.hid (show ∀ w', Ext wz w' → _ from fun w' he => blockT hbx (by omega) he)
    have Hres := Lib.hid hres
    have Hbx := Lib.hid hbx
    have Hall := Lib.hid hall
    have HA := Lib.hid hA
    have HN := Lib.hid hN
    have Hul := Lib.hid hul
    simp only [RUnit.cells] at Hb
    clear hwz hsz hres hbx hall hA hN hul hkc hhc hwc
    go_enter Tryz.func91, Tryz.ntmps91
    go_wp2
    rw [Hwz.out]
    refine wp_drawn_tail 7 (fun i => match i with | 0 => TCells [.slice hdA hl.length hc] | 1 => Ty.is (.slice hdA hl.length hc) | 2 => TOwn wordEl wz.heap.size hl | 3 => TCells [.slice wA wl.length wc] | 4 => Ty.is (.slice wA wl.length wc) | 5 => TOwn wordEl wz.heap.size wl | 6 => Ty.is (.pointer (some ⟨w.heap.size, 5, none⟩)) | _ => Ty.any) (by kernel_rfl) (by kernel_rfl) (by kernel_rfl) (by decide) rfl ?_
    intro v
    refine ⟨?_, ?_, ?_, ?_, ?_, ?_, ?_, ?_⟩
    · intro wq hq hd
      refine ob_plain rfl ?_
      exact yld_field 27 3 (.tmp 1) rfl _ Tryz.underlying27 _ rfl 1 Tryz.sizeOf24 (by decide) [.int .i64 ra, .int .i64 ri, .int .i64 rn, .int .i64 rk, .string rl, .slice hdA hl.length hc, .slice wA wl.length wc, .slice kA us.length kc] ((Hb.out _ hq))
    · intro wq hq hd
      obtain ⟨h0, -⟩ := hd
      change (TCells [.slice hdA hl.length hc]).p (v 0) wq at h0
      refine ob_plain rfl ?_
      exact yld_loadOne 24 (.tmp 6) rfl Tryz.isAgg24 (c := .slice hdA hl.length hc) h0 rfl
    · intro wq hq hd
      obtain ⟨h0, -⟩ := hd
      change v 1 = _ at h0
      refine ob_plain rfl ?_
      refine yld_call 96 Tryz.call96 _ _ rfl rfl [_] ⟨h0, trivial⟩ ?_
      refine (cloneW_any _ _ hl _ (hhs.ext (hx0.trans hq)) hl1).mono ?_
      rintro e w' ⟨v', rfl, hown, hx'⟩
      exact ⟨_, rfl, hx', hown.mono hq.size⟩
    · intro wq hq hd
      refine ob_plain rfl ?_
      exact yld_field 27 4 (.tmp 1) rfl _ Tryz.underlying27 _ rfl 1 Tryz.sizeOf24 (by decide) [.int .i64 ra, .int .i64 ri, .int .i64 rn, .int .i64 rk, .string rl, .slice hdA hl.length hc, .slice wA wl.length wc, .slice kA us.length kc] ((Hb.out _ hq))
    · intro wq hq hd
      obtain ⟨h0, -⟩ := hd
      change (TCells [.slice wA wl.length wc]).p (v 3) wq at h0
      refine ob_plain rfl ?_
      exact yld_loadOne 24 (.tmp 9) rfl Tryz.isAgg24 (c := .slice wA wl.length wc) h0 rfl
    · intro wq hq hd
      obtain ⟨h0, h1, -⟩ := hd
      change v 4 = _ at h0
      refine ob_plain rfl ?_
      refine yld_call 96 Tryz.call96 _ _ rfl rfl [_] ⟨h0, trivial⟩ ?_
      refine (cloneW_any _ _ wl _ (hws.ext (hx0.trans hq)) hl2).mono ?_
      rintro e w' ⟨v', rfl, hown, hx'⟩
      exact ⟨_, rfl, hx', hown.mono hq.size⟩
    · intro wq hq hd
      obtain ⟨h0, h1, h2, h3, h4, -⟩ := hd
      refine ob_plain rfl ?_
      exact yld_fld 27 3 (.tmp 1) rfl _ Tryz.underlying27 _ rfl 1 Tryz.sizeOf24 (by decide) w.heap.size 0 rfl rfl
    · intro wq hq hT
      have k2 := hT 2 (by decide)
      change (TOwn wordEl wz.heap.size hl).p (v 2) wq at k2
      have k5 := hT 5 (by decide)
      change (TOwn wordEl wz.heap.size wl).p (v 5) wq at k5
      have k6 := hT 6 (by decide)
      change v 6 = _ at k6
      clear hT
      simp only [List.drop_succ_cons, List.drop_zero, putE, setsE, List.set_cons_succ, List.set_cons_zero, Nat.reduceAdd]
      generalize v 2 = x2 at k2 ⊢
      generalize v 5 = x5 at k5 ⊢
      rw [k6]
      obtain ⟨A1, c1, rfl, hc1, -⟩ := Own.form k2
      obtain ⟨A2, c2, rfl, hc2, -⟩ := Own.form k5
      have g1 : Own wordEl wz.heap.size wq (.slice A1 hl.length c1) hl := k2
      have g2 : Own wordEl wz.heap.size wq (.slice A2 wl.length c2) wl := k5
      have hbq := (hq.block (k := w.heap.size) (by omega)).trans Hbx.out
      have hx0q := hx0.trans hq
      have hzq := hq.size
      clear k2 k5
      go_wp2_with (first | (refine wpList_fld rfl 27 4 (.tmp 1) rfl _ Tryz.underlying27 _ rfl 1 Tryz.sizeOf24 (by decide) w.heap.size 0 rfl ?_) |
        (refine wpList_put rfl 24 (.tmp 12) (.tmp 8) rfl w.heap.size 5 (.slice A1 hl.length c1) rfl rfl [.slice A1 hl.length c1] rfl Tryz.sizeOf24 (by simp [Value.oneCell']) 27 _ hbq (by simp [RUnit.cells]) ?_; intro w1 hw1 hos1 htp1 hou1 hs1 hbk1; have hb1 : w1.heap[w.heap.size]? = some (.cells (RUnit.cells ⟨ra, ri, rn, rk, rl, A1, hl.length, c1, wA, wl.length, wc, kA, us.length, kc⟩).toArray 27 (0, 0)) := (hbk1.trans (by simp [RUnit.cells])); have hx1 : Ext w w1 := hx0q.put (Nat.le_refl _) hw1 hos1 htp1 hou1 hs1; have Hs1 := Lib.hid hs1; clear hs1) |
        (refine wpList_put rfl 24 (.tmp 13) (.tmp 11) rfl w.heap.size 6 (.slice A2 wl.length c2) rfl rfl [.slice A2 wl.length c2] rfl Tryz.sizeOf24 (by simp [Value.oneCell']) 27 _ hb1 (by simp [RUnit.cells]) ?_; intro w2 hw2 hos2 htp2 hou2 hs2 hbk2; have hb2 : w2.heap[w.heap.size]? = some (.cells (RUnit.cells ⟨ra, ri, rn, rk, rl, A1, hl.length, c1, A2, wl.length, c2, kA, us.length, kc⟩).toArray 27 (0, 0)) := (hbk2.trans (by simp [RUnit.cells])); have hx2 : Ext w w2 := hx1.put (Nat.le_refl _) hw2 hos2 htp2 hou2 hs2; have Hs2 := Lib.hid hs2; clear hs2; have f7 := (unitBlock hb2).2.2.2.2.2.2.2; dsimp only at f7))
      have hz2 : wz.heap.size ≤ w2.heap.size := by rw [Hs2.out, Hs1.out]; exact hzq
      have e2 : ∀ k, k ≠ w.heap.size → w2.heap[k]? = wq.heap[k]? := fun k hk => (hw2 k hk).trans (hw1 k hk)
      have g1' : Own wordEl wz.heap.size w2 (.slice A1 hl.length c1) hl := g1.keep fun k hk => e2 k (by have := (g1.lt k hk).1; omega)
      have g2' : Own wordEl wz.heap.size w2 (.slice A2 wl.length c2) wl := g2.keep fun k hk => e2 k (by have := (g2.lt k hk).1; omega)
      have hr2 : w2.heap[w.heap.size + 1]? = some (.cells unit0.cells.toArray 27 (0, 0)) := (e2 _ (by omega)).trans ((hq.block (by omega)).trans Hres.out)
      obtain ⟨p, hp⟩ : ∃ p : Nat → Bool, p = fresh wz.heap.size := ⟨_, rfl⟩
      obtain ⟨_, _, hv1, -, -, hsl1⟩ := g1'.formMask (p := p) (fun k hk _ => by rw [hp]; simp [fresh]; omega)
      cases hv1
      obtain ⟨_, _, hv2, -, -, hsl2⟩ := g2'.formMask (p := p) (fun k hk _ => by rw [hp]; simp [fresh]; omega)
      cases hv2
      have Hp1 := Lib.hid (show ∀ k, k < wz.heap.size → p k = true from fun k hk => by rw [hp]; simp [fresh, hk])
      have Hp3 := Lib.hid (show ∀ k, p k = true → k < w2.heap.size from fun k hk => by
        rw [hp] at hk
        simp only [fresh, decide_eq_true_eq] at hk
        omega)
      have hzw : w.heap.size + 2 ≤ wz.heap.size := hz1
      clear e2 g1 g2 g1' g2' hb1 hbq hbk1 hbk2 hw1 hw2 hos1 hos2 htp1 htp2 hou1 hou2 hx1 hx0q hzq hq Hs1 Hs2 hp w1
      go_wp2
      clear f7
      go_loopw [3, 17] (fun vr i wr => ∃ (k : Nat) (rs : List RUnit) (p : Nat → Bool), k ≤ us.length ∧ i = .int .i64 k ∧ wr.heap[w.heap.size]? = some (.cells (RUnit.cells ⟨ra, ri, rn, rk, rl, A1, hl.length, c1, A2, wl.length, c2, kA, us.length, kc⟩).toArray 27 (0, 0)) ∧ wr.heap[w.heap.size + 1]? = some (.cells unit0.cells.toArray 27 (0, 0)) ∧ Own unitEl wz.heap.size wr vr rs ∧
        Hid (∀ j, j < wz.heap.size → p j = true) ∧ Hid (∀ j, p j = true → j < wr.heap.size) ∧ Hid (∀ g, vr.ownBlock = some g → p g = true ∧ g ≠ w.heap.size) ∧ Sl wordEl (mask p wr) A1 hl ∧ Sl wordEl (mask p wr) A2 wl ∧
        Hid (ReadsAll (mask p wr) (kids.take k) rs) ∧ Ext w wr) (fun _ i _ => us.length - (intOf i).toNat)
      case atStart => exact ⟨0, [], p, Nat.zero_le _, rfl, hb2, hr2, Own.nil _, Hp1, Hp3, Lib.hid (fun g hg => by cases hg), hsl1, hsl2, Lib.hid (by rw [List.take_zero, ReadsAll]; trivial), hx2⟩
      case round =>
        clear hb2 hr2 hsl1 hsl2 hx2 Hp1 Hp3
        obtain ⟨k, rs, p, hk, rfl, hbk, hrk, hown, Hp1, Hp3, Hpo, hs1, hs2, Hrs, hext⟩ := hrel
        have hsz : wz.heap.size ≤ wr.heap.size := by
          rcases Nat.eq_zero_or_pos wz.heap.size with h | h
          · omega
          · have := Hp3.out (wz.heap.size - 1) (Hp1.out _ (by omega)); omega
        have hrl : rs.length = k := by rw [ReadsAll.length Hrs.out, List.length_take, ← Hul.out]; omega
        have Hrl := Lib.hid hrl
        clear hrl
        by_cases hlt : k < us.length
        · have hltk : k < kids.length := by have := Hul.out; omega
          have d1 : decide ((k : Int) < (us.length : Int)) = true := decide_eq_true (by omega)
          obtain ⟨q, hq⟩ : ∃ q, us[k] = q := ⟨_, rfl⟩
          obtain ⟨_, _, hAe, hbq2, u0, u1, u2, u3, u4, u5, u6, u7⟩ := unitAtK (hus.ext hext) hlt hq
          subst hAe
          have hsub : SizeOf.sizeOf kids[k] ≤ N := by
            have a1 := List.sizeOf_lt_of_mem (List.getElem_mem hltk)
            have a2 := HN.out
            simp at a2
            omega
          have hwk : Ext wr (wr.alloc (.cells #[.int .i64 q.a, .int .i64 q.i, .int .i64 q.n, .int .i64 q.kind, .string q.label, .slice q.hA q.hn q.hc, .slice q.wA q.wn q.wc, .slice q.kA q.kn q.kc] 27)) := (Ext.refl _).alloc _
          have hrec := ih kids[k] q (wr.alloc (.cells #[.int .i64 q.a, .int .i64 q.i, .int .i64 q.n, .int .i64 q.kind, .string q.label, .slice q.hA q.hn q.hc, .slice q.wA q.wn q.wc, .slice q.kA q.kn q.kc] 27)) hsub (Reads.ext (hext.trans hwk) _ _ (hq ▸ ReadsAll.get Hall.out k hltk hlt)) (HA.out.get k hltk)
          simp only [RUnit.cells] at hrec
          have Hrec := Lib.hid hrec
          clear hsub hq hrec
          go_wp2_with fail
          refine (Hrec.out).mono ?_
          rintro e w2 ⟨r', rfl, hx2, hrd⟩
          have hrd2 : Reads (mask (fresh wr.heap.size) w2) kids[k] r' := Reads.cin (CIn.weaken _ (fresh_le (by simp))) _ _ hrd
          have hxq := hwk.trans hx2
          have Hrd := Lib.hid (Reads.cin (CIn.ext ((Ext.refl w2).alloc (.cells r'.cells.toArray 27))) _ _ hrd2)
          have hsz2 := hxq.size
          have hxa : Ext wr (w2.alloc (.cells r'.cells.toArray 27)) := hxq.alloc _
          obtain ⟨xa, xi, xn, xk, xl, xhA, xhn, xhc, xwA, xwn, xwc, xkA, xkn, xkc⟩ := r'
          simp only [RUnit.cells] at Hrd hxa ⊢
          clear hrd hrd2 Hrec u0 u1 u2 u3 u4 u5 u6 u7
          go_wp2_with (at_builtin; refine wpList_appAt unitEl rfl _ _ rfl 1 rfl (hown.ext hxa) (ys := [⟨xa, xi, xn, xk, xl, xhA, xhn, xhc, xwA, xwn, xwc, xkA, xkn, xkc⟩]) rfl (Sl.new unitEl rfl) (by rw [Hrl.out]; simp; omega) (by simp; omega) ?_; intro v' w3 hown3 hg3 hloc)
          have hlc : v'.ownBlock = _ ∨ v'.ownBlock = some (w2.alloc _).heap.size := hloc
          obtain ⟨p', hp'1, hp'2, hp'3, hci1, hci2, hown4, hbel⟩ := Own.step (B := w.heap.size) hxa hown (Hp1.out w.heap.size (by omega)) Hp3.out Hpo.out hg3 hlc hown3 (fun _ _ => rfl) rfl rfl rfl rfl (Nat.le_refl _) (by omega) (by omega)
          have hadd : ReadsAll (mask p' w3) (kids.take (k + 1)) (rs ++ [⟨xa, xi, xn, xk, xl, xhA, xhn, xhc, xwA, xwn, xwc, xkA, xkn, xkc⟩]) := by
            rw [List.take_succ_eq_append_getElem hltk]
            exact ReadsAll.snoc (ReadsAll.cin hci1 _ _ Hrs.out) (Reads.cin hci2 _ _ Hrd.out)
          have Hadd := Lib.hid hadd
          have Hp1' := Lib.hid (fun j (hj : j < wz.heap.size) => hp'1 j (Hp1.out j hj))
          have Hp3' := Lib.hid hp'2
          have Hp4' := Lib.hid hp'3
          have hne : ∀ j, j < wz.heap.size → w3.heap[j]? = wr.heap[j]? := fun j hj => (hg3.block j (by simp; omega) (fun h => by have := (hown.lt j h.symm).1; omega)).trans (hxa.block (by omega))
          have hbk3 := (hne _ (by omega)).trans hbk
          have hrk3 := (hne _ (by omega)).trans hrk
          have hx3 : Ext w w3 := hext.trans' hbel
          have hs1' := hs1.cin hci1
          have hs2' := hs2.cin hci1
          clear hadd hp'1 hp'2 hp'3 hloc hlc hg3 hne hown3
          go_wp2
          go_roundw
          case rel => exact ⟨k + 1, _, p', by omega, by go_num, hbk3, hrk3, hown4, Hp1', Hp3', Hp4', hs1', hs2', Hadd, hx3⟩
          case measure => simp [intOf]; omega
        · have hkl : k = us.length := by omega
          have d1 : decide ((k : Int) < (us.length : Int)) = false := decide_eq_false (by omega)
          have HR := Hrs.out
          rw [hkl, Hul.out, List.take_length] at HR
          have HR := Lib.hid HR
          have HRl := Lib.hid (show rs.length = kids.length by rw [Hrl.out, hkl, Hul.out])
          obtain ⟨A3, c3, rfl, hc3, -, hsl3⟩ := hown.formMask (p := fresh wz.heap.size) (fun k hk _ => by simp [fresh]; omega)
          clear hkl Hrs
          have hlt3 : ∀ g, (Value.slice A3 rs.length c3).ownBlock = some g → wz.heap.size ≤ g := fun g hg => (hown.lt g hg).1
          go_wp2_with (first | (refine wpList_fld rfl 27 5 (.tmp 1) rfl _ Tryz.underlying27 _ rfl 1 Tryz.sizeOf25 (by decide) w.heap.size 0 rfl ?_) |
            (refine wpList_put rfl 25 (.tmp 28) (.tmp 27) rfl w.heap.size 7 (.slice A3 rs.length c3) rfl rfl [.slice A3 rs.length c3] rfl Tryz.sizeOf25 (by simp [Value.oneCell']) 27 _ hbk (by simp [RUnit.cells]) ?_; intro w3 hw3 hos3 htp3 hou3 hs3 hbk3; have hb3 : w3.heap[w.heap.size]? = some (.cells (RUnit.cells ⟨ra, ri, rn, rk, rl, A1, hl.length, c1, A2, wl.length, c2, A3, rs.length, c3⟩).toArray 27 (0, 0)) := (hbk3.trans (by simp [RUnit.cells])); have hr3 := (hw3 (w.heap.size + 1) (by omega)).trans hrk; have hx3 : Ext w w3 := hext.put (Nat.le_refl _) hw3 hos3 htp3 hou3 hs3; have HW3 := Lib.hid hw3; have HS3 := Lib.hid hs3; clear hw3 hos3 htp3 hou3 hs3 hbk3; obtain ⟨f0, f1, f2, f3, f4, f5, f6, f7⟩ := unitBlock hb3; dsimp only at f0 f1 f2 f3 f4 f5 f6 f7) |
            (refine wpList_put rfl 27 (.tmp 2) (.tmp 29) rfl (w.heap.size + 1) 0 (.agg (RUnit.cells ⟨ra, ri, rn, rk, rl, A1, hl.length, c1, A2, wl.length, c2, A3, rs.length, c3⟩).toArray) rfl rfl (RUnit.cells ⟨ra, ri, rn, rk, rl, A1, hl.length, c1, A2, wl.length, c2, A3, rs.length, c3⟩) rfl Tryz.sizeOf27 (by simp [RUnit.cells, Value.oneCell']) 27 _ hr3 (by simp [unit0, RUnit.cells]) ?_; intro w4 hw4 hos4 htp4 hou4 hs4 hbk4))
          have hfin : w4.heap[w.heap.size + 1]? = some (.cells (RUnit.cells ⟨ra, ri, rn, rk, rl, A1, hl.length, c1, A2, wl.length, c2, A3, rs.length, c3⟩).toArray 27 (0, 0)) := by
            rw [hbk4]
            simp [RUnit.cells, unit0]
          have hne : ∀ g, wz.heap.size ≤ g → w4.heap[g]? = wr.heap[g]? := fun g hg => (hw4 g (by omega)).trans (HW3.out g (by omega))
          have hs34 : w4.heap.size = wr.heap.size := hs4.trans HS3.out
          have hown4 : Own unitEl wz.heap.size w4 (.slice A3 rs.length c3) rs := hown.keep fun g hg => hne g (hlt3 g hg)
          obtain ⟨_, _, hv4, hoc, -, hsl4⟩ := hown4.formMask (p := fresh w.heap.size) (fun g hg _ => by simp [fresh]; omega)
          cases hv4
          have hci : CIn (mask p wr) (mask (fresh w.heap.size) w4) := CIn.keep (by omega) fun k hk hpk => by
            have hnk : ¬ k < wz.heap.size := fun h => by rw [Hp1.out k h] at hpk; cases hpk
            exact ⟨hne k (by omega), by simp [fresh]; omega⟩
          (try simp only [Exit.inBlock, Exit.then])
          refine bodyPost_ret (results_cell1 rfl _ _ (w.heap.size + 1) _ rfl hfin) rfl ?_
          refine ⟨_, rfl, hx3.put (Nat.le_succ _) hw4 hos4 htp4 hou4 hs4, ?_⟩
          rw [Reads]
          exact ⟨⟨rfl, rfl, rfl, rfl, rfl⟩, ⟨rfl, hc1, hs1.cin hci⟩, ⟨rfl, hc2, hs2.cin hci⟩, HRl.out, by rw [← HRl.out]; exact hoc, rs, hsl4, ReadsAll.cin hci _ _ HR.out⟩
theorem copyU_rec : ∀ N, CopyUAt N
  | 0 => fun u _ _ h => by obtain ⟨a, i, n, kd, lb, hl, wl, kids⟩ := u; simp at h
  | N + 1 => copyU_step N (copyU_rec N)
theorem copiedU_any (u : GUnit) (r : RUnit) (w : World) (hr : Reads w u r) (hA : AllU (lensLe 1048576 1048576) u) :
    Calls Tryz.prog 91 #[.agg r.cells.toArray] w fun e w' => ∃ r' : RUnit, e = .returned (.agg r'.cells.toArray) ∧ Ext w w' ∧ Reads (mask (fresh w.heap.size) w') u r' := copyU_rec _ u r w (Nat.le_refl _) hr hA
end Go.Proofs.YtjhdamjbljafhaaGreatDoor
