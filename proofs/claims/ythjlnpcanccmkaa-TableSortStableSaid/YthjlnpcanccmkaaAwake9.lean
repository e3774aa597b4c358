/- awake: the example of the chapter, for the program as it is given. -/
import Derived.Test.YthjlnpcanccmkaaRow9
import Derived.Test.YthjlnpcanccmkaaText9
namespace Go.Proofs.Ythjlnpcanccmkaa
open Go.RowKit

def LA9 : List ByteArray := [⟨#[97]⟩, ⟨#[98, 32, 98]⟩]
def LB9 : List ByteArray := [⟨#[99]⟩, ⟨#[100]⟩]
def tabU : GUnit := .mk 0 0 0 4 ⟨#[]⟩ [] [] [rowF LA9, rowF LB9]
def FX9 : List ByteArray := [⟨#[97, 32, 124, 32, 98, 32, 98]⟩, ⟨#[99, 32, 124, 32, 100]⟩]
theorem fmt_awake : formatF tabU = FX9 := by decide
theorem wide_awake : widthsF tabU = [1, 3] := by decide
theorem small_awake : smallU tabU := by
  refine ⟨by decide, ?_⟩
  simp only [tabU, rowF, cellF, LA9, LB9, List.map_cons, List.map_nil]
  simp only [AllU, AllUs, nodeOk]
  decide

set_option maxRecDepth 100000 in
set_option maxHeartbeats 1600000 in
theorem awake9_any (w : World) : Calls Try.prog 9 #[] w fun e w' => e = .returned (.bool true) ∧ Ext w w' := by
  go_enter Try.func9, Try.ntmps9
  go_wp2_with fail
  refine (row9_any (some ⟨w.heap.size, 0, none⟩) 2 LA9 _ (Sl.new strEl rfl) (by decide) (by decide)).mono ?_
  rintro e w1 ⟨r1, rfl, hx1, hr1⟩
  have Hr1 := Lib.hid (Reads.cin (CIn.unmask _ _) _ _ hr1)
  clear hr1
  have hx1 : Ext w w1 := ((Ext.refl w).alloc _).trans hx1
  go_wp2_with fail
  refine (row9_any (some ⟨w1.heap.size, 0, none⟩) 2 LB9 _ (Sl.new strEl rfl) (by decide) (by decide)).mono ?_
  rintro e w2 ⟨r2, rfl, hx2, hr2⟩
  have hx12 : Ext w1 w2 := ((Ext.refl w1).alloc _).trans hx2
  have Hr2 := Lib.hid (Reads.cin (CIn.unmask _ _) _ _ hr2)
  have Hr1' := Lib.hid (Reads.ext hx12 _ _ Hr1.out)
  clear hr2 Hr1
  simp only [RUnit.cells]
  go_wp2_with fail
  have hx3 : Ext w2 ((w2.alloc (.cells #[.int .i64 r1.a, .int .i64 r1.i, .int .i64 r1.n, .int .i64 r1.kind, .string r1.label, .slice r1.hA r1.hn r1.hc, .slice r1.wA r1.wn r1.wc, .slice r1.kA r1.kn r1.kc, .int .i64 r2.a, .int .i64 r2.i, .int .i64 r2.n, .int .i64 r2.kind, .string r2.label, .slice r2.hA r2.hn r2.hc, .slice r2.wA r2.wn r2.wc, .slice r2.kA r2.kn r2.kc] 27)).alloc (.cells #[.int .i64 0, .int .i64 0, .int .i64 0, .int .i64 4, .string ⟨#[]⟩, .slice none 0 0, .slice none 0 0, .slice (some ⟨w2.heap.size, 0, none⟩) 2 2] 27)) := ((Ext.refl w2).alloc _).alloc _
  have hbk : ((w2.alloc (.cells #[.int .i64 r1.a, .int .i64 r1.i, .int .i64 r1.n, .int .i64 r1.kind, .string r1.label, .slice r1.hA r1.hn r1.hc, .slice r1.wA r1.wn r1.wc, .slice r1.kA r1.kn r1.kc, .int .i64 r2.a, .int .i64 r2.i, .int .i64 r2.n, .int .i64 r2.kind, .string r2.label, .slice r2.hA r2.hn r2.hc, .slice r2.wA r2.wn r2.wc, .slice r2.kA r2.kn r2.kc] 27)).alloc (.cells #[.int .i64 0, .int .i64 0, .int .i64 0, .int .i64 4, .string ⟨#[]⟩, .slice none 0 0, .slice none 0 0, .slice (some ⟨w2.heap.size, 0, none⟩) 2 2] 27)).heap[w2.heap.size + 1]? = some (.cells (RUnit.cells ⟨0, 0, 0, 4, ⟨#[]⟩, none, 0, 0, none, 0, 0, some ⟨w2.heap.size, 0, none⟩, 2, 2⟩).toArray 27 (0, 0)) := by
    have e := heap_alloc_new (w2.alloc (.cells #[.int .i64 r1.a, .int .i64 r1.i, .int .i64 r1.n, .int .i64 r1.kind, .string r1.label, .slice r1.hA r1.hn r1.hc, .slice r1.wA r1.wn r1.wc, .slice r1.kA r1.kn r1.kc, .int .i64 r2.a, .int .i64 r2.i, .int .i64 r2.n, .int .i64 r2.kind, .string r2.label, .slice r2.hA r2.hn r2.hc, .slice r2.wA r2.wn r2.wc, .slice r2.kA r2.kn r2.kc] 27)) (.cells #[.int .i64 0, .int .i64 0, .int .i64 0, .int .i64 4, .string ⟨#[]⟩, .slice none 0 0, .slice none 0 0, .slice (some ⟨w2.heap.size, 0, none⟩) 2 2] 27)
    rw [show (w2.alloc (.cells #[.int .i64 r1.a, .int .i64 r1.i, .int .i64 r1.n, .int .i64 r1.kind, .string r1.label, .slice r1.hA r1.hn r1.hc, .slice r1.wA r1.wn r1.wc, .slice r1.kA r1.kn r1.kc, .int .i64 r2.a, .int .i64 r2.i, .int .i64 r2.n, .int .i64 r2.kind, .string r2.label, .slice r2.hA r2.hn r2.hc, .slice r2.wA r2.wn r2.wc, .slice r2.kA r2.kn r2.kc] 27)).heap.size = w2.heap.size + 1 from by simp] at e
    exact e
  have hks : Sl unitEl ((w2.alloc (.cells #[.int .i64 r1.a, .int .i64 r1.i, .int .i64 r1.n, .int .i64 r1.kind, .string r1.label, .slice r1.hA r1.hn r1.hc, .slice r1.wA r1.wn r1.wc, .slice r1.kA r1.kn r1.kc, .int .i64 r2.a, .int .i64 r2.i, .int .i64 r2.n, .int .i64 r2.kind, .string r2.label, .slice r2.hA r2.hn r2.hc, .slice r2.wA r2.wn r2.wc, .slice r2.kA r2.kn r2.kc] 27)).alloc (.cells #[.int .i64 0, .int .i64 0, .int .i64 0, .int .i64 4, .string ⟨#[]⟩, .slice none 0 0, .slice none 0 0, .slice (some ⟨w2.heap.size, 0, none⟩) 2 2] 27)) (some ⟨w2.heap.size, 0, none⟩) [r1, r2] := Sl.ext (Sl.new unitEl rfl) ((Ext.refl _).alloc _)
  obtain ⟨wt, hwt⟩ : ∃ wt, (w2.alloc (.cells #[.int .i64 r1.a, .int .i64 r1.i, .int .i64 r1.n, .int .i64 r1.kind, .string r1.label, .slice r1.hA r1.hn r1.hc, .slice r1.wA r1.wn r1.wc, .slice r1.kA r1.kn r1.kc, .int .i64 r2.a, .int .i64 r2.i, .int .i64 r2.n, .int .i64 r2.kind, .string r2.label, .slice r2.hA r2.hn r2.hc, .slice r2.wA r2.wn r2.wc, .slice r2.kA r2.kn r2.kc] 27)).alloc (.cells #[.int .i64 0, .int .i64 0, .int .i64 0, .int .i64 4, .string ⟨#[]⟩, .slice none 0 0, .slice none 0 0, .slice (some ⟨w2.heap.size, 0, none⟩) 2 2] 27) = wt := ⟨_, rfl⟩
  rw [hwt] at hx3 hbk hks ⊢
  clear hwt
  have hrd : Reads wt tabU ⟨0, 0, 0, 4, ⟨#[]⟩, none, 0, 0, none, 0, 0, some ⟨w2.heap.size, 0, none⟩, 2, 2⟩ := by
    unfold tabU
    rw [Reads]
    refine ⟨⟨rfl, rfl, rfl, rfl, rfl⟩, ⟨rfl, Nat.le_refl _, Sl.nil⟩, ⟨rfl, Nat.le_refl _, Sl.nil⟩, rfl, Nat.le_refl _, [r1, r2], hks, ?_⟩
    rw [ReadsAll, ReadsAll, ReadsAll]
    exact ⟨Reads.ext hx3 _ _ Hr1'.out, Reads.ext hx3 _ _ Hr2.out, trivial⟩
  have Hrd := Lib.hid hrd
  have hlt := block_lt hbk
  have Hbk := Lib.hid hbk
  clear hrd hbk hks
  refine (format_any tabU _ wt Hrd.out small_awake).mono ?_
  rw [fmt_awake]
  rintro e w4 ⟨v4, rfl, hown4, hx4⟩
  obtain ⟨A4, c4, rfl, -, hs4⟩ := hown4.form
  clear hown4
  go_wp2_with fail
  refine (texts9_eq A4 (some ⟨w4.heap.size, 0, none⟩) c4 2 FX9 _ (hs4.ext ((Ext.refl _).alloc _)) (Sl.new strEl rfl) (by decide)).mono ?_
  rintro e w5 ⟨rfl, hx5⟩
  have hx45 : Ext w4 w5 := ((Ext.refl w4).alloc _).trans hx5
  have hbk5 := ((hx4.trans hx45).block hlt).trans Hbk.out
  obtain ⟨f0, f1, f2, f3, f4, f5, f6, f7⟩ := unitBlock hbk5
  dsimp only at f0 f1 f2 f3 f4 f5 f6 f7
  have Hrd5 := Lib.hid (Reads.ext (hx4.trans hx45) _ _ Hrd.out)
  clear Hrd hbk5
  go_wp2_with fail
  refine (widths_any tabU _ w5 Hrd5.out small_awake).mono ?_
  rw [wide_awake]
  rintro e w6 ⟨v6, rfl, hown6, hx6⟩
  obtain ⟨A6, c6, rfl, -, hs6⟩ := hown6.form
  clear hown6 f0 f1 f2 f3 f4 f5 f6 f7
  go_wp2_with fail
  refine (ints_eq A6 (some ⟨w6.heap.size, 0, none⟩) c6 2 [1, 3] _ (hs6.ext ((Ext.refl _).alloc _)) (Sl.new intEl rfl) (by decide)).mono ?_
  rintro e w7 ⟨rfl, hx7⟩
  have hfin : Ext w w7 := (hx1.trans hx12).trans ((hx3.trans hx4).trans (hx45.trans (hx6.trans (((Ext.refl w6).alloc _).trans hx7))))
  go_wp2
  go_ret
  exact ⟨rfl, hfin⟩

end Go.Proofs.Ythjlnpcanccmkaa
