/- awake: the examples of the chapter, for the program as it is given. -/
import Derived.Test.YtkbmocgjbhmioaaRep
import Derived.Test.YtkbmocgjbhmioaaFew
namespace Go.Proofs.Ytkbmocgjbhmioaa
open Go.RowKit

theorem wordEql (w : World) (x y : GWord) : (binOp .eql 59 (.agg #[.string x.t, .int .i64 x.a, .int .i64 x.i, .int .i64 x.k]) (.agg #[.string y.t, .int .i64 y.a, .int .i64 y.i, .int .i64 y.k])).run Try.prog w = .ok (.bool (decide (x = y))) w := by
  rw [run_eql_struct, eqWord]
  simp only [Result.andThen_ok]
  congr 2
  cases x; cases y
  simp

def TPair (r : List GWord × Int) : Ty := ⟨fun v w => ∃ A c, v = .tuple #[.slice A r.1.length c, .int .i64 r.2] ∧ r.1.length ≤ c ∧ Sl wordEl w A r.1, fun _ _ _ he ⟨A, c, h1, h2, h3⟩ => ⟨A, c, h1, h2, h3.ext he⟩⟩
def W0 : List GWord := [⟨⟨#[97]⟩, 0, 0, 0⟩, ⟨⟨#[98]⟩, 0, 0, 0⟩, ⟨⟨#[97]⟩, 0, 0, 0⟩]
def WA : List GWord := [⟨⟨#[97]⟩, 0, 0, 0⟩, ⟨⟨#[97]⟩, 0, 0, 0⟩]
def WX : List GWord × Int := ([⟨⟨#[97]⟩, 0, 0, 0⟩, ⟨⟨#[120]⟩, 7, 2, 0⟩, ⟨⟨#[121]⟩, 7, 2, 1⟩, ⟨⟨#[97]⟩, 0, 0, 0⟩], 0)
def WZ : List GWord × Int := ([⟨⟨#[97]⟩, 0, 0, 0⟩, ⟨⟨#[122]⟩, 7, 2, 0⟩, ⟨⟨#[97]⟩, 0, 0, 0⟩, ⟨⟨#[122]⟩, 7, 2, 1⟩], 0)
theorem repX : repF W0 [⟨#[98]⟩] [⟨#[120]⟩, ⟨#[121]⟩] 1 7 2 = WX := by decide
theorem insZ : insF WA [⟨#[97]⟩] [⟨#[122]⟩] 0 7 2 = WZ := by decide

set_option maxRecDepth 100000 in
set_option maxHeartbeats 1600000 in
theorem awake_any (w : World) : Calls Try.prog 10 #[] w fun e w' => e = .returned (.bool true) ∧ Ext w w' := by
  go_enter Try.func10, Try.ntmps10
  go_wp2_with fail
  refine (replace_any (some ⟨w.heap.size, 0, none⟩) (some ⟨w.heap.size + 1, 0, none⟩) (some ⟨w.heap.size + 1 + 1, 0, none⟩) 3 1 2 W0 [⟨#[98]⟩] [⟨#[120]⟩, ⟨#[121]⟩] 1 7 2 _ ((Sl.new wordEl rfl).ext (((Ext.refl _).alloc _).alloc _)) ((Sl.new' strEl (by simp) rfl).ext ((Ext.refl _).alloc _)) (Sl.new' strEl (by simp) rfl) (by decide) (by decide) (by decide)).mono ?_
  rw [repX]
  rintro e w2 ⟨A1, c1, rfl, hc1, hs1, hext2⟩
  have hx2 : Ext w w2 := ((((Ext.refl w).alloc _).alloc _).alloc _).trans hext2
  have hs0 : Sl wordEl w2 (some ⟨w.heap.size, 0, none⟩) W0 := (((Sl.new wordEl rfl).ext (((Ext.refl _).alloc _).alloc _))).ext hext2
  go_wp2
  refine wp_drawn (by kernel_rfl) (fun i => match i with | 0 => Ty.is (.slice (some ⟨w.heap.size, 0, none⟩) 3 3) | 1 => TCells [.string ⟨#[97]⟩, .int .i64 0, .int .i64 0, .int .i64 0] | 2 => Ty.is (.agg #[.string ⟨#[97]⟩, .int .i64 0, .int .i64 0, .int .i64 0]) | 3 => Ty.is (.slice (some ⟨w.heap.size, 0, none⟩) 3 3) | 4 => TCells [.string ⟨#[97]⟩, .int .i64 0, .int .i64 0, .int .i64 0] | 5 => Ty.is (.agg #[.string ⟨#[97]⟩, .int .i64 0, .int .i64 0, .int .i64 0]) | 6 => TOwn wordEl w2.heap.size WA | 7 => TOwn strEl w2.heap.size [⟨#[97]⟩] | 8 => TOwn strEl w2.heap.size [⟨#[122]⟩] | 9 => TPair WZ | 10 => TPair WZ | 11 => TSl wordEl WZ.1 | 12 => Ty.is (.int .i64 0) | 13 => TSl wordEl WZ.1 | 14 => Ty.is (.int .i64 0) | _ => Ty.any) (by kernel_rfl) rfl ?_
  intro v
  refine ⟨?_, ?_, ?_, ?_, ?_, ?_, ?_, ?_, ?_, ?_, ?_, ?_, ?_, ?_, ?_, ?_⟩
  · intro wq hq hd
    refine ob_plain rfl ?_
    exact yld_move (.tmp 1) rfl rfl rfl
  · intro wq hq hd
    obtain ⟨h0, -⟩ := hd
    change v 0 = _ at h0
    refine ob_plain rfl ?_
    exact yld_indexAt wordEl (.tmp 18) _ rfl _ W0 3 h0 0 rfl (hs0.ext hq) _ rfl
  · intro wq hq hd
    obtain ⟨h0, -⟩ := hd
    change (TCells [.string ⟨#[97]⟩, .int .i64 0, .int .i64 0, .int .i64 0]).p (v 1) wq at h0
    refine ob_plain rfl ?_
    exact yld_loadAgg 59 (.tmp 19) rfl Try.isAgg59 4 Try.sizeOf59 [.string ⟨#[97]⟩, .int .i64 0, .int .i64 0, .int .i64 0] rfl h0 rfl
  · intro wq hq hd
    refine ob_plain rfl ?_
    exact yld_move (.tmp 1) rfl rfl rfl
  · intro wq hq hd
    obtain ⟨h0, -⟩ := hd
    change v 3 = _ at h0
    refine ob_plain rfl ?_
    exact yld_indexAt wordEl (.tmp 21) _ rfl _ W0 3 h0 2 rfl (hs0.ext hq) _ rfl
  · intro wq hq hd
    obtain ⟨h0, -⟩ := hd
    change (TCells [.string ⟨#[97]⟩, .int .i64 0, .int .i64 0, .int .i64 0]).p (v 4) wq at h0
    refine ob_plain rfl ?_
    exact yld_loadAgg 59 (.tmp 22) rfl Try.isAgg59 4 Try.sizeOf59 [.string ⟨#[97]⟩, .int .i64 0, .int .i64 0, .int .i64 0] rfl h0 rfl
  · intro wq hq hd
    obtain ⟨h0, h1, -⟩ := hd
    change v 2 = _ at h0
    change v 5 = _ at h1
    refine ob_plain rfl ?_
    exact yld_buildSlice wordEl 2 [(0, _), (1, _)] rfl [(0, .agg #[.string ⟨#[97]⟩, .int .i64 0, .int .i64 0, .int .i64 0]), (1, .agg #[.string ⟨#[97]⟩, .int .i64 0, .int .i64 0, .int .i64 0])] ⟨⟨rfl, h0⟩, ⟨rfl, h1⟩, trivial⟩ _ hq.size _ rfl (by decide) (fun w => by change (Instr.buildSlice 22 2 _).run _ w = _; go_simp; rfl)
  · intro wq hq hd
    refine ob_plain rfl ?_
    exact yld_buildSlice strEl 1 [(0, _)] rfl [(0, .string ⟨#[97]⟩)] ⟨⟨rfl, rfl⟩, trivial⟩ _ hq.size _ rfl (by decide) (fun w => by change (Instr.buildSlice 23 1 _).run _ w = _; go_simp; rfl)
  · intro wq hq hd
    refine ob_plain rfl ?_
    exact yld_buildSlice strEl 1 [(0, _)] rfl [(0, .string ⟨#[122]⟩)] ⟨⟨rfl, rfl⟩, trivial⟩ _ hq.size _ rfl (by decide) (fun w => by change (Instr.buildSlice 23 1 _).run _ w = _; go_simp; rfl)
  · intro wq hq hd
    obtain ⟨h0, h1, h2, -⟩ := hd
    change (TOwn wordEl w2.heap.size WA).p (v 6) wq at h0
    change (TOwn strEl w2.heap.size [⟨#[97]⟩]).p (v 7) wq at h1
    change (TOwn strEl w2.heap.size [⟨#[122]⟩]).p (v 8) wq at h2
    refine ob_plain rfl ?_
    obtain ⟨A0, c0, g0, gc0, gs0⟩ := Own.form h0
    obtain ⟨A1, c1, g1, gc1, gs1⟩ := Own.form h1
    obtain ⟨A2, c2, g2, gc2, gs2⟩ := Own.form h2
    refine yld_call 15 Try.call15 _ _ rfl rfl [_, _, _, _, _, _] ⟨g0, g1, g2, rfl, rfl, rfl, trivial⟩ ?_
    refine (insert_any A0 A1 A2 c0 c1 c2 WA [⟨#[97]⟩] [⟨#[122]⟩] 0 7 2 _ gs0 gs1 gs2 (by decide) (by decide) (by decide)).mono ?_
    rw [insZ]
    rintro e w' ⟨A3, c3, rfl, hc3, hs3, hext3⟩
    exact ⟨_, rfl, hext3, A3, c3, rfl, hc3, hs3⟩
  · intro wq hq hd
    obtain ⟨h0, -⟩ := hd
    change (TPair WZ).p (v 9) wq at h0
    refine ob_plain rfl ?_
    exact yld_move (.tmp 27) rfl rfl h0
  · intro wq hq hd
    obtain ⟨h0, -⟩ := hd
    change (TPair WZ).p (v 10) wq at h0
    refine ob_plain rfl ?_
    obtain ⟨A3, c3, g3, gc3, gs3⟩ := h0
    exact yld_extract (.tmp 17) 0 rfl _ g3 rfl ⟨A3, c3, rfl, gc3, gs3⟩
  · intro wq hq hd
    obtain ⟨h0, -⟩ := hd
    change (TPair WZ).p (v 10) wq at h0
    refine ob_plain rfl ?_
    obtain ⟨A3, c3, g3, gc3, gs3⟩ := h0
    exact yld_extract (.tmp 17) 1 rfl _ g3 rfl rfl
  · intro wq hq hd
    obtain ⟨h0, h1, h2, h3, h4, h5, h6, h7, h8, h9, h10, h11, h12, h13, -⟩ := hd
    change (TSl wordEl WZ.1).p (v 11) wq at h0
    refine ob_plain rfl ?_
    exact yld_assign (.tmp 28) rfl rfl h0
  · intro wq hq hd
    obtain ⟨h0, h1, h2, h3, h4, h5, h6, h7, h8, h9, h10, h11, h12, h13, h14, h15, -⟩ := hd
    change v 12 = _ at h0
    refine ob_plain rfl ?_
    exact yld_assign (.tmp 29) rfl h0 rfl
  · intro w4 hq4 hT
    have k13 := hT 13 (by decide)
    change (TSl wordEl WZ.1).p (v 13) w4 at k13
    have k14 := hT 14 (by decide)
    change v 14 = _ at k14
    clear hT
    simp only [List.drop_succ_cons, List.drop_zero, putE, setsE, List.set_cons_succ, List.set_cons_zero, Nat.reduceAdd]
    generalize v 13 = x13 at k13 ⊢
    rw [k14]
    obtain ⟨A4, c4, g4, gc4, hs4⟩ := k13
    subst g4
    have hs0' := hs0.ext hq4
    have hs1' := hs1.ext hq4
    have hx4 : Ext w w4 := hx2.trans hq4
    clear hs0 hs1 hx2 hq4
    clear hext2
    clear w2
    go_wp2
    refine wp_drawn (by kernel_rfl) (fun i => match i with | 0 => Ty.is (.int .i64 WX.2) | 1 => Ty.is (.bool (decide ((WX.2 : Int) = 0))) | 2 => Ty.is (.bool (decide ((WX.2 : Int) = 0))) | 3 => TGd ((decide ((WX.2 : Int) = 0)) = true) (Ty.is (.int .i64 0)) | 4 => TGd ((decide ((WX.2 : Int) = 0)) = true) (Ty.is (.bool (decide ((0 : Int) = 0)))) | 5 => Ty.is (.bool ((decide ((WX.2 : Int) = 0)) && (decide ((0 : Int) = 0)))) | 6 => Ty.is (.bool ((decide ((WX.2 : Int) = 0)) && (decide ((0 : Int) = 0)))) | 7 => TGd (((decide ((WX.2 : Int) = 0)) && (decide ((0 : Int) = 0))) = true) (Ty.is (.slice A1 WX.1.length c1)) | 8 => TGd (((decide ((WX.2 : Int) = 0)) && (decide ((0 : Int) = 0))) = true) (Ty.is (.slice (some ⟨w.heap.size, 0, none⟩) 3 3)) | 9 => TGd (((decide ((WX.2 : Int) = 0)) && (decide ((0 : Int) = 0))) = true) (TCells [.string ⟨#[97]⟩, .int .i64 0, .int .i64 0, .int .i64 0]) | 10 => TGd (((decide ((WX.2 : Int) = 0)) && (decide ((0 : Int) = 0))) = true) (Ty.is (.agg #[.string ⟨#[97]⟩, .int .i64 0, .int .i64 0, .int .i64 0])) | 11 => TGd (((decide ((WX.2 : Int) = 0)) && (decide ((0 : Int) = 0))) = true) (Ty.is (.agg #[.int .i64 7, .int .i64 2, .int .i64 0])) | 12 => TGd (((decide ((WX.2 : Int) = 0)) && (decide ((0 : Int) = 0))) = true) (Ty.is (.agg #[.string ⟨#[120]⟩, .int .i64 7, .int .i64 2, .int .i64 0])) | 13 => TGd (((decide ((WX.2 : Int) = 0)) && (decide ((0 : Int) = 0))) = true) (Ty.is (.agg #[.int .i64 7, .int .i64 2, .int .i64 1])) | 14 => TGd (((decide ((WX.2 : Int) = 0)) && (decide ((0 : Int) = 0))) = true) (Ty.is (.agg #[.string ⟨#[121]⟩, .int .i64 7, .int .i64 2, .int .i64 1])) | 15 => TGd (((decide ((WX.2 : Int) = 0)) && (decide ((0 : Int) = 0))) = true) (Ty.is (.slice (some ⟨w.heap.size, 0, none⟩) 3 3)) | 16 => TGd (((decide ((WX.2 : Int) = 0)) && (decide ((0 : Int) = 0))) = true) (TCells [.string ⟨#[97]⟩, .int .i64 0, .int .i64 0, .int .i64 0]) | 17 => TGd (((decide ((WX.2 : Int) = 0)) && (decide ((0 : Int) = 0))) = true) (Ty.is (.agg #[.string ⟨#[97]⟩, .int .i64 0, .int .i64 0, .int .i64 0])) | 18 => TGd (((decide ((WX.2 : Int) = 0)) && (decide ((0 : Int) = 0))) = true) (TOwn wordEl w4.heap.size WX.1) | 19 => TGd (((decide ((WX.2 : Int) = 0)) && (decide ((0 : Int) = 0))) = true) (Ty.is (.bool true)) | 20 => Ty.is (.bool (((decide ((WX.2 : Int) = 0)) && (decide ((0 : Int) = 0))) && true)) | 21 => Ty.is (.bool (((decide ((WX.2 : Int) = 0)) && (decide ((0 : Int) = 0))) && true)) | 22 => TGd ((((decide ((WX.2 : Int) = 0)) && (decide ((0 : Int) = 0))) && true) = true) (Ty.is (.slice A4 WZ.1.length c4)) | 23 => TGd ((((decide ((WX.2 : Int) = 0)) && (decide ((0 : Int) = 0))) && true) = true) (Ty.is (.int .i64 WZ.1.length)) | 24 => TGd ((((decide ((WX.2 : Int) = 0)) && (decide ((0 : Int) = 0))) && true) = true) (Ty.is (.bool (decide ((WZ.1.length : Int) = 4)))) | 25 => Ty.is (.bool ((((decide ((WX.2 : Int) = 0)) && (decide ((0 : Int) = 0))) && true) && (decide ((WZ.1.length : Int) = 4)))) | 26 => Ty.is (.bool ((((decide ((WX.2 : Int) = 0)) && (decide ((0 : Int) = 0))) && true) && (decide ((WZ.1.length : Int) = 4)))) | 27 => TGd (((((decide ((WX.2 : Int) = 0)) && (decide ((0 : Int) = 0))) && true) && (decide ((WZ.1.length : Int) = 4))) = true) (Ty.is (.slice A4 WZ.1.length c4)) | 28 => TGd (((((decide ((WX.2 : Int) = 0)) && (decide ((0 : Int) = 0))) && true) && (decide ((WZ.1.length : Int) = 4))) = true) (TCells [.string ⟨#[122]⟩, .int .i64 7, .int .i64 2, .int .i64 1]) | 29 => TGd (((((decide ((WX.2 : Int) = 0)) && (decide ((0 : Int) = 0))) && true) && (decide ((WZ.1.length : Int) = 4))) = true) (Ty.is (.agg #[.string ⟨#[122]⟩, .int .i64 7, .int .i64 2, .int .i64 1])) | 30 => TGd (((((decide ((WX.2 : Int) = 0)) && (decide ((0 : Int) = 0))) && true) && (decide ((WZ.1.length : Int) = 4))) = true) (Ty.is (.agg #[.int .i64 7, .int .i64 2, .int .i64 1])) | 31 => TGd (((((decide ((WX.2 : Int) = 0)) && (decide ((0 : Int) = 0))) && true) && (decide ((WZ.1.length : Int) = 4))) = true) (Ty.is (.agg #[.string ⟨#[122]⟩, .int .i64 7, .int .i64 2, .int .i64 1])) | 32 => TGd (((((decide ((WX.2 : Int) = 0)) && (decide ((0 : Int) = 0))) && true) && (decide ((WZ.1.length : Int) = 4))) = true) (Ty.is (.bool true)) | 33 => Ty.is (.bool (((((decide ((WX.2 : Int) = 0)) && (decide ((0 : Int) = 0))) && true) && (decide ((WZ.1.length : Int) = 4))) && true)) | 34 => Ty.is (.bool (((((decide ((WX.2 : Int) = 0)) && (decide ((0 : Int) = 0))) && true) && (decide ((WZ.1.length : Int) = 4))) && true)) | _ => Ty.any) (by kernel_rfl) rfl ?_
    intro v
    refine ⟨?_, ?_, ?_, ?_, ?_, ?_, ?_, ?_, ?_, ?_, ?_, ?_, ?_, ?_, ?_, ?_, ?_, ?_, ?_, ?_, ?_, ?_, ?_, ?_, ?_, ?_, ?_, ?_, ?_, ?_, ?_, ?_, ?_, ?_, ?_, ?_⟩
    · intro wq hq hd
      refine ob_plain rfl ?_
      exact yld_move (.tmp 3) rfl rfl rfl
    · intro wq hq hd
      obtain ⟨h0, -⟩ := hd
      change v 0 = _ at h0
      refine ob_plain rfl ?_
      exact yld_binInt .eql 26 26 (.tmp 30) _ rfl _ _ h0 rfl (run_eql_i64 _ _ _) rfl
    · intro wq hq hd
      obtain ⟨h0, -⟩ := hd
      change v 1 = _ at h0
      refine ob_plain rfl ?_
      exact yld_move (.tmp 31) rfl h0 rfl
    · intro wq hq hd
      obtain ⟨h0, -⟩ := hd
      change v 2 = _ at h0
      refine ob_guard 2 true ((decide ((WX.2 : Int) = 0))) rfl (yields_of rfl h0) (fun hg => ?_) (fun hg => ?_)
      · refine Yld.gd (p := (decide ((WX.2 : Int) = 0)) = true) (T := Ty.is (.int .i64 0)) ?_
        exact yld_move (.tmp 5) rfl rfl rfl
      · intro hn; rw [hn] at hg; cases hg
    · intro wq hq hd
      obtain ⟨h0, h1, -⟩ := hd
      change ((decide ((WX.2 : Int) = 0)) = true) → v 3 = _ at h0
      change v 2 = _ at h1
      refine ob_guard 2 true ((decide ((WX.2 : Int) = 0))) rfl (yields_of rfl h1) (fun hg => ?_) (fun hg => ?_)
      · refine Yld.gd (p := (decide ((WX.2 : Int) = 0)) = true) (T := Ty.is (.bool (decide ((0 : Int) = 0)))) ?_
        replace h0 := h0 hg
        exact yld_binInt .eql 26 26 (.tmp 33) _ rfl _ _ h0 rfl (run_eql_i64 _ _ _) rfl
      · intro hn; rw [hn] at hg; cases hg
    · intro wq hq hd
      obtain ⟨h0, h1, -⟩ := hd
      change v 2 = _ at h0
      change ((decide ((WX.2 : Int) = 0)) = true) → v 4 = _ at h1
      refine ob_plain rfl ?_
      exact yld_and (.tmp 32) (.tmp 34) rfl rfl _ _ h0 (fun hgd => h1 hgd) rfl
    · intro wq hq hd
      obtain ⟨h0, h1, -⟩ := hd
      change v 5 = _ at h0
      refine ob_plain rfl ?_
      exact yld_move (.tmp 35) rfl h0 rfl
    · intro wq hq hd
      obtain ⟨h0, -⟩ := hd
      change v 6 = _ at h0
      refine ob_guard 6 true (((decide ((WX.2 : Int) = 0)) && (decide ((0 : Int) = 0)))) rfl (yields_of rfl h0) (fun hg => ?_) (fun hg => ?_)
      · refine Yld.gd (p := ((decide ((WX.2 : Int) = 0)) && (decide ((0 : Int) = 0))) = true) (T := Ty.is (.slice A1 WX.1.length c1)) ?_
        exact yld_move (.tmp 2) rfl rfl rfl
      · intro hn; rw [hn] at hg; cases hg
    · intro wq hq hd
      obtain ⟨h0, -⟩ := hd
      change v 6 = _ at h0
      refine ob_guard 6 true (((decide ((WX.2 : Int) = 0)) && (decide ((0 : Int) = 0)))) rfl (yields_of rfl h0) (fun hg => ?_) (fun hg => ?_)
      · refine Yld.gd (p := ((decide ((WX.2 : Int) = 0)) && (decide ((0 : Int) = 0))) = true) (T := Ty.is (.slice (some ⟨w.heap.size, 0, none⟩) 3 3)) ?_
        exact yld_move (.tmp 1) rfl rfl rfl
      · intro hn; rw [hn] at hg; cases hg
    · intro wq hq hd
      obtain ⟨h0, h1, -⟩ := hd
      change (((decide ((WX.2 : Int) = 0)) && (decide ((0 : Int) = 0))) = true) → v 8 = _ at h0
      change v 6 = _ at h1
      refine ob_guard 6 true (((decide ((WX.2 : Int) = 0)) && (decide ((0 : Int) = 0)))) rfl (yields_of rfl h1) (fun hg => ?_) (fun hg => ?_)
      · refine Yld.gd (p := ((decide ((WX.2 : Int) = 0)) && (decide ((0 : Int) = 0))) = true) (T := TCells [.string ⟨#[97]⟩, .int .i64 0, .int .i64 0, .int .i64 0]) ?_
        replace h0 := h0 hg
        exact yld_indexAt wordEl (.tmp 38) _ rfl _ W0 3 h0 0 rfl (hs0'.ext hq) _ rfl
      · intro hn; rw [hn] at hg; cases hg
    · intro wq hq hd
      obtain ⟨h0, h1, -⟩ := hd
      change (((decide ((WX.2 : Int) = 0)) && (decide ((0 : Int) = 0))) = true) → (TCells [.string ⟨#[97]⟩, .int .i64 0, .int .i64 0, .int .i64 0]).p (v 9) wq at h0
      change v 6 = _ at h1
      refine ob_guard 6 true (((decide ((WX.2 : Int) = 0)) && (decide ((0 : Int) = 0)))) rfl (yields_of rfl h1) (fun hg => ?_) (fun hg => ?_)
      · refine Yld.gd (p := ((decide ((WX.2 : Int) = 0)) && (decide ((0 : Int) = 0))) = true) (T := Ty.is (.agg #[.string ⟨#[97]⟩, .int .i64 0, .int .i64 0, .int .i64 0])) ?_
        replace h0 := h0 hg
        exact yld_loadAgg 59 (.tmp 39) rfl Try.isAgg59 4 Try.sizeOf59 [.string ⟨#[97]⟩, .int .i64 0, .int .i64 0, .int .i64 0] rfl h0 rfl
      · intro hn; rw [hn] at hg; cases hg
    · intro wq hq hd
      obtain ⟨h0, -⟩ := hd
      change v 6 = _ at h0
      refine ob_guard 6 true (((decide ((WX.2 : Int) = 0)) && (decide ((0 : Int) = 0)))) rfl (yields_of rfl h0) (fun hg => ?_) (fun hg => ?_)
      · refine Yld.gd (p := ((decide ((WX.2 : Int) = 0)) && (decide ((0 : Int) = 0))) = true) (T := Ty.is (.agg #[.int .i64 7, .int .i64 2, .int .i64 0])) ?_
        exact yld_build 57 [(0, _), (1, _)] rfl [(0, .int .i64 7), (1, .int .i64 2)] ⟨⟨rfl, rfl⟩, ⟨rfl, rfl⟩, trivial⟩ (fun w => by go_simp) rfl
      · intro hn; rw [hn] at hg; cases hg
    · intro wq hq hd
      obtain ⟨h0, h1, -⟩ := hd
      change (((decide ((WX.2 : Int) = 0)) && (decide ((0 : Int) = 0))) = true) → v 11 = _ at h0
      change v 6 = _ at h1
      refine ob_guard 6 true (((decide ((WX.2 : Int) = 0)) && (decide ((0 : Int) = 0)))) rfl (yields_of rfl h1) (fun hg => ?_) (fun hg => ?_)
      · refine Yld.gd (p := ((decide ((WX.2 : Int) = 0)) && (decide ((0 : Int) = 0))) = true) (T := Ty.is (.agg #[.string ⟨#[120]⟩, .int .i64 7, .int .i64 2, .int .i64 0])) ?_
        replace h0 := h0 hg
        exact yld_build 59 [(0, _), (1, _)] rfl [(0, .string ⟨#[120]⟩), (1, .agg #[.int .i64 7, .int .i64 2, .int .i64 0])] ⟨⟨rfl, rfl⟩, ⟨rfl, h0⟩, trivial⟩ (fun w => by go_simp) rfl
      · intro hn; rw [hn] at hg; cases hg
    · intro wq hq hd
      obtain ⟨h0, -⟩ := hd
      change v 6 = _ at h0
      refine ob_guard 6 true (((decide ((WX.2 : Int) = 0)) && (decide ((0 : Int) = 0)))) rfl (yields_of rfl h0) (fun hg => ?_) (fun hg => ?_)
      · refine Yld.gd (p := ((decide ((WX.2 : Int) = 0)) && (decide ((0 : Int) = 0))) = true) (T := Ty.is (.agg #[.int .i64 7, .int .i64 2, .int .i64 1])) ?_
        exact yld_build 57 [(0, _), (1, _), (2, _)] rfl [(0, .int .i64 7), (1, .int .i64 2), (2, .int .i64 1)] ⟨⟨rfl, rfl⟩, ⟨rfl, rfl⟩, ⟨rfl, rfl⟩, trivial⟩ (fun w => by go_simp) rfl
      · intro hn; rw [hn] at hg; cases hg
    · intro wq hq hd
      obtain ⟨h0, h1, -⟩ := hd
      change (((decide ((WX.2 : Int) = 0)) && (decide ((0 : Int) = 0))) = true) → v 13 = _ at h0
      change v 6 = _ at h1
      refine ob_guard 6 true (((decide ((WX.2 : Int) = 0)) && (decide ((0 : Int) = 0)))) rfl (yields_of rfl h1) (fun hg => ?_) (fun hg => ?_)
      · refine Yld.gd (p := ((decide ((WX.2 : Int) = 0)) && (decide ((0 : Int) = 0))) = true) (T := Ty.is (.agg #[.string ⟨#[121]⟩, .int .i64 7, .int .i64 2, .int .i64 1])) ?_
        replace h0 := h0 hg
        exact yld_build 59 [(0, _), (1, _)] rfl [(0, .string ⟨#[121]⟩), (1, .agg #[.int .i64 7, .int .i64 2, .int .i64 1])] ⟨⟨rfl, rfl⟩, ⟨rfl, h0⟩, trivial⟩ (fun w => by go_simp) rfl
      · intro hn; rw [hn] at hg; cases hg
    · intro wq hq hd
      obtain ⟨h0, -⟩ := hd
      change v 6 = _ at h0
      refine ob_guard 6 true (((decide ((WX.2 : Int) = 0)) && (decide ((0 : Int) = 0)))) rfl (yields_of rfl h0) (fun hg => ?_) (fun hg => ?_)
      · refine Yld.gd (p := ((decide ((WX.2 : Int) = 0)) && (decide ((0 : Int) = 0))) = true) (T := Ty.is (.slice (some ⟨w.heap.size, 0, none⟩) 3 3)) ?_
        exact yld_move (.tmp 1) rfl rfl rfl
      · intro hn; rw [hn] at hg; cases hg
    · intro wq hq hd
      obtain ⟨h0, h1, -⟩ := hd
      change (((decide ((WX.2 : Int) = 0)) && (decide ((0 : Int) = 0))) = true) → v 15 = _ at h0
      change v 6 = _ at h1
      refine ob_guard 6 true (((decide ((WX.2 : Int) = 0)) && (decide ((0 : Int) = 0)))) rfl (yields_of rfl h1) (fun hg => ?_) (fun hg => ?_)
      · refine Yld.gd (p := ((decide ((WX.2 : Int) = 0)) && (decide ((0 : Int) = 0))) = true) (T := TCells [.string ⟨#[97]⟩, .int .i64 0, .int .i64 0, .int .i64 0]) ?_
        replace h0 := h0 hg
        exact yld_indexAt wordEl (.tmp 45) _ rfl _ W0 3 h0 2 rfl (hs0'.ext hq) _ rfl
      · intro hn; rw [hn] at hg; cases hg
    · intro wq hq hd
      obtain ⟨h0, h1, -⟩ := hd
      change (((decide ((WX.2 : Int) = 0)) && (decide ((0 : Int) = 0))) = true) → (TCells [.string ⟨#[97]⟩, .int .i64 0, .int .i64 0, .int .i64 0]).p (v 16) wq at h0
      change v 6 = _ at h1
      refine ob_guard 6 true (((decide ((WX.2 : Int) = 0)) && (decide ((0 : Int) = 0)))) rfl (yields_of rfl h1) (fun hg => ?_) (fun hg => ?_)
      · refine Yld.gd (p := ((decide ((WX.2 : Int) = 0)) && (decide ((0 : Int) = 0))) = true) (T := Ty.is (.agg #[.string ⟨#[97]⟩, .int .i64 0, .int .i64 0, .int .i64 0])) ?_
        replace h0 := h0 hg
        exact yld_loadAgg 59 (.tmp 46) rfl Try.isAgg59 4 Try.sizeOf59 [.string ⟨#[97]⟩, .int .i64 0, .int .i64 0, .int .i64 0] rfl h0 rfl
      · intro hn; rw [hn] at hg; cases hg
    · intro wq hq hd
      obtain ⟨h0, h1, h2, h3, h4, -⟩ := hd
      change (((decide ((WX.2 : Int) = 0)) && (decide ((0 : Int) = 0))) = true) → v 10 = _ at h0
      change (((decide ((WX.2 : Int) = 0)) && (decide ((0 : Int) = 0))) = true) → v 12 = _ at h1
      change (((decide ((WX.2 : Int) = 0)) && (decide ((0 : Int) = 0))) = true) → v 14 = _ at h2
      change (((decide ((WX.2 : Int) = 0)) && (decide ((0 : Int) = 0))) = true) → v 17 = _ at h3
      change v 6 = _ at h4
      refine ob_guard 6 true (((decide ((WX.2 : Int) = 0)) && (decide ((0 : Int) = 0)))) rfl (yields_of rfl h4) (fun hg => ?_) (fun hg => ?_)
      · refine Yld.gd (p := ((decide ((WX.2 : Int) = 0)) && (decide ((0 : Int) = 0))) = true) (T := TOwn wordEl w4.heap.size WX.1) ?_
        replace h0 := h0 hg
        replace h1 := h1 hg
        replace h2 := h2 hg
        replace h3 := h3 hg
        exact yld_buildSlice wordEl 4 [(0, _), (1, _), (2, _), (3, _)] rfl [(0, .agg #[.string ⟨#[97]⟩, .int .i64 0, .int .i64 0, .int .i64 0]), (1, .agg #[.string ⟨#[120]⟩, .int .i64 7, .int .i64 2, .int .i64 0]), (2, .agg #[.string ⟨#[121]⟩, .int .i64 7, .int .i64 2, .int .i64 1]), (3, .agg #[.string ⟨#[97]⟩, .int .i64 0, .int .i64 0, .int .i64 0])] ⟨⟨rfl, h0⟩, ⟨rfl, h1⟩, ⟨rfl, h2⟩, ⟨rfl, h3⟩, trivial⟩ _ hq.size _ rfl (by decide) (fun w => by change (Instr.buildSlice 22 4 _).run _ w = _; go_simp; rfl)
      · intro hn; rw [hn] at hg; cases hg
    · intro wq hq hd
      obtain ⟨h0, h1, h2, h3, -⟩ := hd
      change (((decide ((WX.2 : Int) = 0)) && (decide ((0 : Int) = 0))) = true) → v 7 = _ at h0
      change (((decide ((WX.2 : Int) = 0)) && (decide ((0 : Int) = 0))) = true) → (TOwn wordEl w4.heap.size WX.1).p (v 18) wq at h1
      change v 6 = _ at h2
      refine ob_guard 6 true (((decide ((WX.2 : Int) = 0)) && (decide ((0 : Int) = 0)))) rfl (yields_of rfl h2) (fun hg => ?_) (fun hg => ?_)
      · refine Yld.gd (p := ((decide ((WX.2 : Int) = 0)) && (decide ((0 : Int) = 0))) = true) (T := Ty.is (.bool true)) ?_
        replace h0 := h0 hg
        replace h1 := h1 hg
        obtain ⟨A0, c0, g0, gc0, gs0⟩ := Own.form h1
        refine yld_call 14 Try.call14 _ _ rfl rfl [_, _] ⟨h0, g0, trivial⟩ ?_
        refine (rows_any _ _ _ _ WX.1 WX.1 _ (hs1'.ext hq) gs0 (by decide)).mono ?_
        rintro e w' ⟨rfl, m, rfl⟩
        exact ⟨_, rfl, (Ext.refl _).drewN _, by simp [Ty.is]⟩
      · intro hn; rw [hn] at hg; cases hg
    · intro wq hq hd
      obtain ⟨h0, h1, -⟩ := hd
      change v 6 = _ at h0
      change (((decide ((WX.2 : Int) = 0)) && (decide ((0 : Int) = 0))) = true) → v 19 = _ at h1
      refine ob_plain rfl ?_
      exact yld_and (.tmp 36) (.tmp 49) rfl rfl _ _ h0 (fun hgd => h1 hgd) rfl
    · intro wq hq hd
      obtain ⟨h0, h1, -⟩ := hd
      change v 20 = _ at h0
      refine ob_plain rfl ?_
      exact yld_move (.tmp 50) rfl h0 rfl
    · intro wq hq hd
      obtain ⟨h0, -⟩ := hd
      change v 21 = _ at h0
      refine ob_guard 21 true ((((decide ((WX.2 : Int) = 0)) && (decide ((0 : Int) = 0))) && true)) rfl (yields_of rfl h0) (fun hg => ?_) (fun hg => ?_)
      · refine Yld.gd (p := (((decide ((WX.2 : Int) = 0)) && (decide ((0 : Int) = 0))) && true) = true) (T := Ty.is (.slice A4 WZ.1.length c4)) ?_
        exact yld_move (.tmp 4) rfl rfl rfl
      · intro hn; rw [hn] at hg; cases hg
    · intro wq hq hd
      obtain ⟨h0, h1, -⟩ := hd
      change ((((decide ((WX.2 : Int) = 0)) && (decide ((0 : Int) = 0))) && true) = true) → v 22 = _ at h0
      change v 21 = _ at h1
      refine ob_guard 21 true ((((decide ((WX.2 : Int) = 0)) && (decide ((0 : Int) = 0))) && true)) rfl (yields_of rfl h1) (fun hg => ?_) (fun hg => ?_)
      · refine Yld.gd (p := (((decide ((WX.2 : Int) = 0)) && (decide ((0 : Int) = 0))) && true) = true) (T := Ty.is (.int .i64 WZ.1.length)) ?_
        replace h0 := h0 hg
        exact yld_len (.tmp 52) 22 _ Try.underlying22 rfl _ _ _ h0 rfl
      · intro hn; rw [hn] at hg; cases hg
    · intro wq hq hd
      obtain ⟨h0, h1, -⟩ := hd
      change ((((decide ((WX.2 : Int) = 0)) && (decide ((0 : Int) = 0))) && true) = true) → v 23 = _ at h0
      change v 21 = _ at h1
      refine ob_guard 21 true ((((decide ((WX.2 : Int) = 0)) && (decide ((0 : Int) = 0))) && true)) rfl (yields_of rfl h1) (fun hg => ?_) (fun hg => ?_)
      · refine Yld.gd (p := (((decide ((WX.2 : Int) = 0)) && (decide ((0 : Int) = 0))) && true) = true) (T := Ty.is (.bool (decide ((WZ.1.length : Int) = 4)))) ?_
        replace h0 := h0 hg
        exact yld_binInt .eql 3 3 (.tmp 53) _ rfl _ _ h0 rfl (run_eql_i64 _ _ _) rfl
      · intro hn; rw [hn] at hg; cases hg
    · intro wq hq hd
      obtain ⟨h0, h1, -⟩ := hd
      change v 21 = _ at h0
      change ((((decide ((WX.2 : Int) = 0)) && (decide ((0 : Int) = 0))) && true) = true) → v 24 = _ at h1
      refine ob_plain rfl ?_
      exact yld_and (.tmp 51) (.tmp 54) rfl rfl _ _ h0 (fun hgd => h1 hgd) rfl
    · intro wq hq hd
      obtain ⟨h0, h1, -⟩ := hd
      change v 25 = _ at h0
      refine ob_plain rfl ?_
      exact yld_move (.tmp 55) rfl h0 rfl
    · intro wq hq hd
      obtain ⟨h0, -⟩ := hd
      change v 26 = _ at h0
      refine ob_guard 26 true (((((decide ((WX.2 : Int) = 0)) && (decide ((0 : Int) = 0))) && true) && (decide ((WZ.1.length : Int) = 4)))) rfl (yields_of rfl h0) (fun hg => ?_) (fun hg => ?_)
      · refine Yld.gd (p := ((((decide ((WX.2 : Int) = 0)) && (decide ((0 : Int) = 0))) && true) && (decide ((WZ.1.length : Int) = 4))) = true) (T := Ty.is (.slice A4 WZ.1.length c4)) ?_
        exact yld_move (.tmp 4) rfl rfl rfl
      · intro hn; rw [hn] at hg; cases hg
    · intro wq hq hd
      obtain ⟨h0, h1, -⟩ := hd
      change (((((decide ((WX.2 : Int) = 0)) && (decide ((0 : Int) = 0))) && true) && (decide ((WZ.1.length : Int) = 4))) = true) → v 27 = _ at h0
      change v 26 = _ at h1
      refine ob_guard 26 true (((((decide ((WX.2 : Int) = 0)) && (decide ((0 : Int) = 0))) && true) && (decide ((WZ.1.length : Int) = 4)))) rfl (yields_of rfl h1) (fun hg => ?_) (fun hg => ?_)
      · refine Yld.gd (p := ((((decide ((WX.2 : Int) = 0)) && (decide ((0 : Int) = 0))) && true) && (decide ((WZ.1.length : Int) = 4))) = true) (T := TCells [.string ⟨#[122]⟩, .int .i64 7, .int .i64 2, .int .i64 1]) ?_
        replace h0 := h0 hg
        exact yld_indexAt wordEl (.tmp 57) _ rfl _ WZ.1 _ h0 3 rfl (hs4.ext hq) _ rfl
      · intro hn; rw [hn] at hg; cases hg
    · intro wq hq hd
      obtain ⟨h0, h1, -⟩ := hd
      change (((((decide ((WX.2 : Int) = 0)) && (decide ((0 : Int) = 0))) && true) && (decide ((WZ.1.length : Int) = 4))) = true) → (TCells [.string ⟨#[122]⟩, .int .i64 7, .int .i64 2, .int .i64 1]).p (v 28) wq at h0
      change v 26 = _ at h1
      refine ob_guard 26 true (((((decide ((WX.2 : Int) = 0)) && (decide ((0 : Int) = 0))) && true) && (decide ((WZ.1.length : Int) = 4)))) rfl (yields_of rfl h1) (fun hg => ?_) (fun hg => ?_)
      · refine Yld.gd (p := ((((decide ((WX.2 : Int) = 0)) && (decide ((0 : Int) = 0))) && true) && (decide ((WZ.1.length : Int) = 4))) = true) (T := Ty.is (.agg #[.string ⟨#[122]⟩, .int .i64 7, .int .i64 2, .int .i64 1])) ?_
        replace h0 := h0 hg
        exact yld_loadAgg 59 (.tmp 58) rfl Try.isAgg59 4 Try.sizeOf59 [.string ⟨#[122]⟩, .int .i64 7, .int .i64 2, .int .i64 1] rfl h0 rfl
      · intro hn; rw [hn] at hg; cases hg
    · intro wq hq hd
      obtain ⟨h0, -⟩ := hd
      change v 26 = _ at h0
      refine ob_guard 26 true (((((decide ((WX.2 : Int) = 0)) && (decide ((0 : Int) = 0))) && true) && (decide ((WZ.1.length : Int) = 4)))) rfl (yields_of rfl h0) (fun hg => ?_) (fun hg => ?_)
      · refine Yld.gd (p := ((((decide ((WX.2 : Int) = 0)) && (decide ((0 : Int) = 0))) && true) && (decide ((WZ.1.length : Int) = 4))) = true) (T := Ty.is (.agg #[.int .i64 7, .int .i64 2, .int .i64 1])) ?_
        exact yld_build 57 [(0, _), (1, _), (2, _)] rfl [(0, .int .i64 7), (1, .int .i64 2), (2, .int .i64 1)] ⟨⟨rfl, rfl⟩, ⟨rfl, rfl⟩, ⟨rfl, rfl⟩, trivial⟩ (fun w => by go_simp) rfl
      · intro hn; rw [hn] at hg; cases hg
    · intro wq hq hd
      obtain ⟨h0, h1, -⟩ := hd
      change (((((decide ((WX.2 : Int) = 0)) && (decide ((0 : Int) = 0))) && true) && (decide ((WZ.1.length : Int) = 4))) = true) → v 30 = _ at h0
      change v 26 = _ at h1
      refine ob_guard 26 true (((((decide ((WX.2 : Int) = 0)) && (decide ((0 : Int) = 0))) && true) && (decide ((WZ.1.length : Int) = 4)))) rfl (yields_of rfl h1) (fun hg => ?_) (fun hg => ?_)
      · refine Yld.gd (p := ((((decide ((WX.2 : Int) = 0)) && (decide ((0 : Int) = 0))) && true) && (decide ((WZ.1.length : Int) = 4))) = true) (T := Ty.is (.agg #[.string ⟨#[122]⟩, .int .i64 7, .int .i64 2, .int .i64 1])) ?_
        replace h0 := h0 hg
        exact yld_build 59 [(0, _), (1, _)] rfl [(0, .string ⟨#[122]⟩), (1, .agg #[.int .i64 7, .int .i64 2, .int .i64 1])] ⟨⟨rfl, rfl⟩, ⟨rfl, h0⟩, trivial⟩ (fun w => by go_simp) rfl
      · intro hn; rw [hn] at hg; cases hg
    · intro wq hq hd
      obtain ⟨h0, h1, h2, -⟩ := hd
      change (((((decide ((WX.2 : Int) = 0)) && (decide ((0 : Int) = 0))) && true) && (decide ((WZ.1.length : Int) = 4))) = true) → v 29 = _ at h0
      change (((((decide ((WX.2 : Int) = 0)) && (decide ((0 : Int) = 0))) && true) && (decide ((WZ.1.length : Int) = 4))) = true) → v 31 = _ at h1
      change v 26 = _ at h2
      refine ob_guard 26 true (((((decide ((WX.2 : Int) = 0)) && (decide ((0 : Int) = 0))) && true) && (decide ((WZ.1.length : Int) = 4)))) rfl (yields_of rfl h2) (fun hg => ?_) (fun hg => ?_)
      · refine Yld.gd (p := ((((decide ((WX.2 : Int) = 0)) && (decide ((0 : Int) = 0))) && true) && (decide ((WZ.1.length : Int) = 4))) = true) (T := Ty.is (.bool true)) ?_
        replace h0 := h0 hg
        replace h1 := h1 hg
        exact yld_binAgg .eql 59 59 (.tmp 59) (.tmp 61) rfl _ _ h0 h1 (by kernel_rfl) (fun w => (wordEql w ⟨⟨#[122]⟩, 7, 2, 1⟩ ⟨⟨#[122]⟩, 7, 2, 1⟩).trans (by rw [decide_eq_true rfl])) rfl
      · intro hn; rw [hn] at hg; cases hg
    · intro wq hq hd
      obtain ⟨h0, h1, -⟩ := hd
      change v 26 = _ at h0
      change (((((decide ((WX.2 : Int) = 0)) && (decide ((0 : Int) = 0))) && true) && (decide ((WZ.1.length : Int) = 4))) = true) → v 32 = _ at h1
      refine ob_plain rfl ?_
      exact yld_and (.tmp 56) (.tmp 62) rfl rfl _ _ h0 (fun hgd => h1 hgd) rfl
    · intro wq hq hd
      obtain ⟨h0, h1, h2, h3, h4, h5, h6, h7, h8, h9, h10, h11, h12, h13, h14, h15, h16, h17, h18, h19, h20, h21, h22, h23, h24, h25, h26, h27, h28, h29, h30, h31, h32, h33, h34, h35, -⟩ := hd
      change v 33 = _ at h0
      refine ob_plain rfl ?_
      exact yld_assign (.tmp 63) rfl h0 rfl
    · intro wq hq hT
      have k34 := hT 34 (by decide)
      change v 34 = _ at k34
      clear hT
      simp only [List.drop_succ_cons, List.drop_zero, putE, setsE, List.set_cons_succ, List.set_cons_zero, Nat.reduceAdd]
      rw [k34]
      go_wp2
      go_ret
      exact ⟨rfl, hx4.trans hq⟩

end Go.Proofs.Ytkbmocgjbhmioaa
