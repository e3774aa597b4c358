/- The comparing function of SortByColumn: it compares the texts of two cells. -/
import Derived.Test.YthjlnpcanccmkaaCmpS9
import Derived.Test.YthjlnpcanccmkaaLess9
import Derived.Test.YthjlnpcanccmkaaCol9
namespace Go.Proofs.Ythjlnpcanccmkaa
open Go.RowKit

/-- a row whose cell in place j is small -/
def RowS (j : Nat) (u : GUnit) : Prop := ∃ c, u.kids[j]? = some c ∧ c.words.length ≤ 300 ∧ ∀ x ∈ c.words, x.t.size ≤ 100
def ltC (j : Nat) (x y : RUnit × GUnit) : Bool := lessB (cellText j x.2) (cellText j y.2)
theorem ltC_wk (j : Nat) : Wk (ltC j) := lessB_wk fun p : RUnit × GUnit => cellText j p.2
/-- the worlds of a sort: the column's box, and the rows' contents, beside the row that turns -/
def JC (g bx j : Nat) (ps : List (RUnit × GUnit)) (w : World) : Prop := (mask (fun k => k == g) w).cell? ⟨bx, 0, none⟩ = some (.int .i64 (j : Nat)) ∧ ∀ p ∈ ps, Reads (mask (fun k => k == g) w) p.2 p.1
theorem JC.keep {g bx j : Nat} {ps : List (RUnit × GUnit)} {w w' : World} (h : JC g bx j ps w) (hk : Kp g w w') : JC g bx j ps w' := ⟨hk.cin.cell _ _ h.1, fun p hp => Reads.cin hk.cin _ _ (h.2 p hp)⟩
theorem says_row {u : GUnit} {r : RUnit} {w : World} {j : Nat} (hr : Reads w u r) (hS : RowS j u) : ∃ rs c, r.kn = rs.length ∧ rs[j]? = some c ∧ Sl unitEl w r.kA rs ∧ ∀ w', Ext w w' → Calls Try.prog 34 #[.agg c.cells.toArray] w' fun e w'' => e = .returned (.string (cellText j u)) ∧ Ext w' w'' := by
  obtain ⟨c, h1, h2, h3⟩ := hS
  unfold cellText
  rw [h1]
  obtain ⟨a, i, n, kd, lb, hd, wd, kids⟩ := u
  rw [Reads] at hr
  obtain ⟨-, -, -, hkn, -, rs, hrs, hall⟩ := hr
  have hl := ReadsAll.length hall
  simp only [GUnit.kids] at h1
  obtain ⟨hj, he⟩ := List.getElem?_eq_some_iff.1 h1
  have hj2 : j < rs.length := by omega
  refine ⟨rs, rs[j], by omega, List.getElem?_eq_getElem hj2, hrs, fun w' hx => ?_⟩
  have := ReadsAll.get hall j hj hj2
  rw [he] at this
  exact says_any c rs[j] w' (Reads.ext hx _ _ this) h2 h3

set_option maxRecDepth 100000 in
set_option maxHeartbeats 3200000 in
theorem cmpF_any (g bx j : Nat) (ps : List (RUnit × GUnit)) (x y : RUnit × GUnit) (w : World) (hx : x ∈ ps ∧ RowS j x.2) (hy : y ∈ ps ∧ RowS j y.2) (hJ : JC g bx j ps w) :
    Calls Try.prog 46 (#[.agg (pairEl.E x).toArray, .agg (pairEl.E y).toArray] ++ #[.pointer (some ⟨bx, 0, none⟩)]) w fun e w' => ∃ z : Int, e = .returned (.int .i64 z) ∧ decide (z < 0) = ltC j x y ∧ Ext w w' := by
  obtain ⟨rx, ux⟩ := x
  obtain ⟨ry, uy⟩ := y
  obtain ⟨hx, sx0⟩ := hx
  obtain ⟨hy, sy0⟩ := hy
  have hrx := Reads.cin (CIn.unmask _ _) _ _ (hJ.2 _ hx)
  have hry := Reads.cin (CIn.unmask _ _) _ _ (hJ.2 _ hy)
  have hcol := (CIn.unmask _ _).cell _ _ hJ.1
  obtain ⟨rsx, cx, lx, gx, slx, hsx⟩ := says_row hrx sx0
  obtain ⟨rsy, cy, ly, gy, sly, hsy⟩ := says_row hry sy0
  have hZ : ∀ z, z = cmpZ (cellText j ux) (cellText j uy) → decide (z < 0) = ltC j (rx, ux) (ry, uy) := fun z hz => by rw [hz, cmpZ_neg]; rfl
  dsimp only at lx ly slx sly hsx hsy hrx hry sx0 sy0
  generalize cellText j ux = sx at hsx hZ
  generalize cellText j uy = sy at hsy hZ
  generalize ltC j (rx, ux) (ry, uy) = BB at hZ ⊢
  have HZ := Lib.hid hZ
  have hx1 : Ext w (w.alloc (.cells rx.cells.toArray 27)) := (Ext.refl w).alloc _
  have hx2 : Ext (w.alloc (.cells rx.cells.toArray 27)) ((w.alloc (.cells rx.cells.toArray 27)).alloc (.cells ry.cells.toArray 27)) := (Ext.refl _).alloc _
  have hb1 := fun w' he => boxT (w' := w') rx (w := w) (hx2.trans he)
  have hb2 := fun w' he => boxT (w' := w') ry (w := w.alloc (.cells rx.cells.toArray 27)) he
  have hxx := hx1.trans hx2
  have hcl : bx < w.heap.size := World.block_lt_of_cell? w ⟨bx, 0, none⟩ hcol
  have hcolT := fun w' (he : Ext ((w.alloc (.cells rx.cells.toArray 27)).alloc (.cells ry.cells.toArray 27)) w') => (show (TCells [.int .i64 (j : Nat)]).p (.pointer (some ⟨bx, 0, none⟩)) w' from ⟨bx, 0, rfl, Nat.lt_of_lt_of_le hcl (hxx.trans he).size, fun k u hu => by
    cases k with
    | zero => simp at hu; subst hu; exact ((hxx.trans he).cell hcl).trans hcol
    | succ k => simp at hu⟩)
  have hs1 := fun w' (he : Ext ((w.alloc (.cells rx.cells.toArray 27)).alloc (.cells ry.cells.toArray 27)) w') => slx.ext (hxx.trans he)
  have hs2 := fun w' (he : Ext ((w.alloc (.cells rx.cells.toArray 27)).alloc (.cells ry.cells.toArray 27)) w') => sly.ext (hxx.trans he)
  have hy1 := fun w' (he : Ext ((w.alloc (.cells rx.cells.toArray 27)).alloc (.cells ry.cells.toArray 27)) w') => hsx w' (hxx.trans he)
  have hy2 := fun w' (he : Ext ((w.alloc (.cells rx.cells.toArray 27)).alloc (.cells ry.cells.toArray 27)) w') => hsy w' (hxx.trans he)
  obtain ⟨ww, hww⟩ : ∃ ww, ((w.alloc (.cells rx.cells.toArray 27)).alloc (.cells ry.cells.toArray 27)) = ww := ⟨_, rfl⟩
  rw [hww] at hb1 hb2 hcolT hs1 hs2 hy1 hy2 hxx
  rw [show (w.alloc (.cells rx.cells.toArray 27)).heap.size = w.heap.size + 1 from by simp] at hb2
  simp only [RUnit.cells, lx] at hb1
  simp only [RUnit.cells, ly] at hb2
  have Hb1 := Lib.hid hb1
  have Hb2 := Lib.hid hb2
  have Hcol := Lib.hid hcolT
  have Hs1 := Lib.hid hs1
  have Hs2 := Lib.hid hs2
  have Hsay1 := Lib.hid hy1
  have Hsay2 := Lib.hid hy2
  have Hcx := Lib.hid gx
  have Hcy := Lib.hid gy
  show Calls Try.prog 46 #[.agg rx.cells.toArray, .agg ry.cells.toArray, .pointer (some ⟨bx, 0, none⟩)] w _
  simp only [RUnit.cells] at hww
  have Hww := Lib.hid hww
  simp only [RUnit.cells]
  clear hx1 hx2 hb1 hb2 hcolT hs1 hs2 hy1 hy2 hsx hsy gx gy slx sly hrx hry hcol hcl hx hy sx0 sy0 hJ hZ hww lx ly
  go_enter Try.func46, Try.ntmps46
  go_wp2_with fail
  rw [Hww.out]
  refine wp_drawn (by kernel_rfl) (fun i => match i with | 0 => TCells [.slice rx.kA rsx.length rx.kc] | 1 => Ty.is (.slice rx.kA rsx.length rx.kc) | 2 => Ty.is (.int .i64 (j : Nat)) | 3 => TCells (RUnit.cells cx) | 4 => Ty.is (.agg (RUnit.cells cx).toArray) | 5 => Ty.is (.string sx) | 6 => TCells [.slice ry.kA rsy.length ry.kc] | 7 => Ty.is (.slice ry.kA rsy.length ry.kc) | 8 => Ty.is (.int .i64 (j : Nat)) | 9 => TCells (RUnit.cells cy) | 10 => Ty.is (.agg (RUnit.cells cy).toArray) | 11 => Ty.is (.string sy) | 12 => Ty.is (.int .i64 (cmpZ sx sy)) | 13 => Ty.is (.int .i64 (cmpZ sx sy)) | _ => Ty.any) (by kernel_rfl) rfl ?_
  intro v
  refine ⟨?_, ?_, ?_, ?_, ?_, ?_, ?_, ?_, ?_, ?_, ?_, ?_, ?_, ?_, ?_⟩
  · intro wq hq hd
    refine ob_plain rfl ?_
    exact yld_field 27 5 (.tmp 3) rfl _ Try.underlying27 _ rfl 1 Try.sizeOf25 (by decide) [.int .i64 rx.a, .int .i64 rx.i, .int .i64 rx.n, .int .i64 rx.kind, .string rx.label, .slice rx.hA rx.hn rx.hc, .slice rx.wA rx.wn rx.wc, .slice rx.kA rsx.length rx.kc] (Hb1.out wq hq)
  · intro wq hq hd
    obtain ⟨h0, -⟩ := hd
    change (TCells [.slice rx.kA rsx.length rx.kc]).p (v 0) wq at h0
    refine ob_plain rfl ?_
    exact yld_loadOne 25 (.tmp 6) rfl Try.isAgg25 (c := .slice rx.kA rsx.length rx.kc) h0 rfl
  · intro wq hq hd
    refine ob_plain rfl ?_
    exact yld_loadOne 3 (.tmp 2) rfl Try.isAgg3 (c := .int .i64 (j : Nat)) (Hcol.out wq hq) rfl
  · intro wq hq hd
    obtain ⟨h0, h1, -⟩ := hd
    change v 1 = _ at h0
    change v 2 = _ at h1
    refine ob_plain rfl ?_
    exact yld_indexAt unitEl (.tmp 7) (.tmp 8) rfl _ rsx _ h0 j h1 (Hs1.out wq hq) cx Hcx.out
  · intro wq hq hd
    obtain ⟨h0, -⟩ := hd
    change (TCells (RUnit.cells cx)).p (v 3) wq at h0
    refine ob_plain rfl ?_
    exact yld_loadAgg 27 (.tmp 9) rfl Try.isAgg27 8 Try.sizeOf27 (RUnit.cells cx) rfl h0 rfl
  · intro wq hq hd
    obtain ⟨h0, -⟩ := hd
    change v 4 = _ at h0
    refine ob_plain rfl ?_
    refine yld_call 34 Try.call34 _ _ rfl rfl [_] ⟨h0, trivial⟩ ?_
    refine (Hsay1.out wq hq).mono ?_
    rintro e w' ⟨rfl, hx'⟩
    exact ⟨_, rfl, hx', rfl⟩
  · intro wq hq hd
    refine ob_plain rfl ?_
    exact yld_field 27 5 (.tmp 4) rfl _ Try.underlying27 _ rfl 1 Try.sizeOf25 (by decide) [.int .i64 ry.a, .int .i64 ry.i, .int .i64 ry.n, .int .i64 ry.kind, .string ry.label, .slice ry.hA ry.hn ry.hc, .slice ry.wA ry.wn ry.wc, .slice ry.kA rsy.length ry.kc] (Hb2.out wq hq)
  · intro wq hq hd
    obtain ⟨h0, -⟩ := hd
    change (TCells [.slice ry.kA rsy.length ry.kc]).p (v 6) wq at h0
    refine ob_plain rfl ?_
    exact yld_loadOne 25 (.tmp 12) rfl Try.isAgg25 (c := .slice ry.kA rsy.length ry.kc) h0 rfl
  · intro wq hq hd
    refine ob_plain rfl ?_
    exact yld_loadOne 3 (.tmp 2) rfl Try.isAgg3 (c := .int .i64 (j : Nat)) (Hcol.out wq hq) rfl
  · intro wq hq hd
    obtain ⟨h0, h1, -⟩ := hd
    change v 7 = _ at h0
    change v 8 = _ at h1
    refine ob_plain rfl ?_
    exact yld_indexAt unitEl (.tmp 13) (.tmp 14) rfl _ rsy _ h0 j h1 (Hs2.out wq hq) cy Hcy.out
  · intro wq hq hd
    obtain ⟨h0, -⟩ := hd
    change (TCells (RUnit.cells cy)).p (v 9) wq at h0
    refine ob_plain rfl ?_
    exact yld_loadAgg 27 (.tmp 15) rfl Try.isAgg27 8 Try.sizeOf27 (RUnit.cells cy) rfl h0 rfl
  · intro wq hq hd
    obtain ⟨h0, h1, -⟩ := hd
    change v 10 = _ at h0
    refine ob_plain rfl ?_
    refine yld_call 34 Try.call34 _ _ rfl rfl [_] ⟨h0, trivial⟩ ?_
    refine (Hsay2.out wq hq).mono ?_
    rintro e w' ⟨rfl, hx'⟩
    exact ⟨_, rfl, hx', rfl⟩
  · intro wq hq hd
    obtain ⟨h0, h1, h2, -⟩ := hd
    change v 5 = _ at h0
    change v 11 = _ at h1
    refine ob_plain rfl ?_
    refine yld_call 47 Try.call47 _ _ rfl rfl [_, _] ⟨h0, h1, trivial⟩ ?_
    refine (compare_any sx sy wq).mono ?_
    rintro e w' ⟨rfl, rfl⟩
    exact ⟨_, rfl, Ext.refl _, rfl⟩
  · intro wq hq hd
    obtain ⟨h0, h1, h2, h3, h4, h5, h6, h7, h8, h9, h10, h11, h12, h13, h14, -⟩ := hd
    change v 12 = _ at h0
    refine ob_plain rfl ?_
    exact yld_assign (.tmp 18) rfl h0 rfl
  · intro wq hq hT
    have k13 := hT 13 (by decide)
    change v 13 = _ at k13
    clear hT
    simp only [List.drop_succ_cons, List.drop_zero, putE, setsE, List.set_cons_succ, List.set_cons_zero, Nat.reduceAdd]
    rw [k13]
    go_wp2
    go_ret
    exact ⟨_, rfl, HZ.out _ rfl, hxx.trans hq⟩

theorem cmpC_of (g bx j : Nat) (ps : List (RUnit × GUnit)) : CmpC g (ltC j) (fun p => p ∈ ps ∧ RowS j p.2) (JC g bx j ps) (.func (.func 46) #[] #[.pointer (some ⟨bx, 0, none⟩)]) where
  keep w w' h k := h.keep k
  call := ⟨_, rfl, fun x y w hx hy hJ => cmpF_any g bx j ps x y w hx hy hJ⟩

end Go.Proofs.Ythjlnpcanccmkaa
