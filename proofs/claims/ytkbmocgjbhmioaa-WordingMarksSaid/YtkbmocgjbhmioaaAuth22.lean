/- Both forms of Authors. -/
import Derived.Test.YtkbmocgjbhmioaaPlain22
import Derived.Shelf.SlSortCmp.NoneTotal
namespace Go.Proofs.Ytkbmocgjbhmioaa
open Go.RowKit

set_option maxRecDepth 100000 in
set_option maxHeartbeats 1600000 in
theorem refAuthors_any (A : Option Addr) (c : Nat) (l : List GWord) (w : World) (hs : Sl wordEl w A l) (hn : l.length ≤ 1000000) :
    Calls Try.prog 33 #[.slice A l.length c] w (RetR w (authR l)) := by
  have Hs := Lib.hid hs
  clear hs
  go_enter Try.func33, Try.ntmps33
  go_wp2
  go_loopw [3, 4] (fun vo vi wr => ∃ k : Nat, k ≤ l.length ∧ vi = .int .i64 (k : Nat) ∧ ∃ Ao co xs, vo = .slice Ao xs.length co ∧ xs.length ≤ co ∧ xs.length ≤ k ∧ Hid (xs = authR (l.take k)) ∧ Hid (Sl refEl wr Ao xs) ∧ Ext w wr) (fun _ vi _ => l.length - (intOf vi).toNat)
  case atStart => exact ⟨0, Nat.zero_le _, rfl, _, 0, [], rfl, Nat.le_refl _, Nat.le_refl _, Lib.hid rfl, Lib.hid Sl.nil, (Ext.refl _).alloc _⟩
  case round =>
    obtain ⟨k, hk, rfl, Ao, co, xs, rfl, hco, hxk, Hxs, Hsx, hext⟩ := hrel
    obtain ⟨wo, rfl⟩ : ∃ wo, wo = wr := ⟨_, rfl⟩
    by_cases hlt : k < l.length
    · have d2 : decide ((k : Int) < (l.length : Int)) = true := decide_eq_true (by omega)
      obtain ⟨x, hx⟩ : ∃ x, l[k] = x := ⟨_, rfl⟩
      have HX := Lib.hid (show l[k]? = some x by rw [← hx]; exact List.getElem?_eq_getElem hlt)
      have Hxs2 := Lib.hid (show addR (refOf x) xs = authR (l.take (k + 1)) by rw [authR_take hlt, hx, Hxs.out])
      have Hso := Lib.hid (show ∀ w', Ext wo w' → Sl refEl w' Ao xs from fun w' he => Hsx.out.ext he)
      have Hsl := Lib.hid (show ∀ w', Ext wo w' → Sl wordEl w' A l from fun w' he => Hs.out.ext (hext.trans he))
      have hal := addR_length (refOf x) xs
      clear hx
      go_wp2_with fail
      refine wp_drawn (by kernel_rfl) (fun i => match i with | 0 => Ty.is (.slice Ao xs.length co) | 1 => Ty.is (.slice A l.length c) | 2 => Ty.is (.int .i64 (k : Nat)) | 3 => TCells [.string x.t, .int .i64 x.a, .int .i64 x.i, .int .i64 x.k] | 4 => TCells [.int .i64 x.a, .int .i64 x.i, .int .i64 x.k] | 5 => TCells [.int .i64 x.a] | 6 => Ty.is (.int .i64 x.a) | 7 => Ty.is (.slice A l.length c) | 8 => Ty.is (.int .i64 (k : Nat)) | 9 => TCells [.string x.t, .int .i64 x.a, .int .i64 x.i, .int .i64 x.k] | 10 => TCells [.int .i64 x.a, .int .i64 x.i, .int .i64 x.k] | 11 => TCells [.int .i64 x.i] | 12 => Ty.is (.int .i64 x.i) | 13 => Ty.is (.agg #[.int .i64 x.a, .int .i64 x.i]) | 14 => TSl refEl (addR (refOf x) xs) | 15 => TSl refEl (addR (refOf x) xs) | _ => Ty.any) (by kernel_rfl) rfl ?_
      intro v
      refine ⟨?_, ?_, ?_, ?_, ?_, ?_, ?_, ?_, ?_, ?_, ?_, ?_, ?_, ?_, ?_, ?_, ?_⟩
      · intro wq hq hd
        refine ob_plain rfl ?_
        exact yld_move (.tmp 3) rfl rfl rfl
      · intro wq hq hd
        refine ob_plain rfl ?_
        exact yld_move (.tmp 0) rfl rfl rfl
      · intro wq hq hd
        refine ob_plain rfl ?_
        exact yld_move (.tmp 4) rfl rfl rfl
      · intro wq hq hd
        obtain ⟨h0, h1, -⟩ := hd
        change v 1 = _ at h0
        change v 2 = _ at h1
        refine ob_plain rfl ?_
        exact yld_indexAt wordEl (.tmp 13) (.tmp 14) rfl _ l c h0 k h1 (Hsl.out wq hq) x HX.out
      · intro wq hq hd
        obtain ⟨h0, -⟩ := hd
        change (TCells [.string x.t, .int .i64 x.a, .int .i64 x.i, .int .i64 x.k]).p (v 3) wq at h0
        refine ob_plain rfl ?_
        exact yld_field 59 1 (.tmp 15) rfl _ Try.underlying59 _ rfl 3 Try.sizeOf57 (by decide) [.string x.t, .int .i64 x.a, .int .i64 x.i, .int .i64 x.k] h0
      · intro wq hq hd
        obtain ⟨h0, -⟩ := hd
        change (TCells [.int .i64 x.a, .int .i64 x.i, .int .i64 x.k]).p (v 4) wq at h0
        refine ob_plain rfl ?_
        exact yld_field 57 0 (.tmp 16) rfl _ Try.underlying57 _ rfl 1 Try.sizeOf3 (by decide) [.int .i64 x.a, .int .i64 x.i, .int .i64 x.k] h0
      · intro wq hq hd
        obtain ⟨h0, -⟩ := hd
        change (TCells [.int .i64 x.a]).p (v 5) wq at h0
        refine ob_plain rfl ?_
        exact yld_loadOne 3 (.tmp 17) rfl Try.isAgg3 (c := .int .i64 x.a) h0 rfl
      · intro wq hq hd
        refine ob_plain rfl ?_
        exact yld_move (.tmp 0) rfl rfl rfl
      · intro wq hq hd
        refine ob_plain rfl ?_
        exact yld_move (.tmp 4) rfl rfl rfl
      · intro wq hq hd
        obtain ⟨h0, h1, -⟩ := hd
        change v 7 = _ at h0
        change v 8 = _ at h1
        refine ob_plain rfl ?_
        exact yld_indexAt wordEl (.tmp 19) (.tmp 20) rfl _ l c h0 k h1 (Hsl.out wq hq) x HX.out
      · intro wq hq hd
        obtain ⟨h0, -⟩ := hd
        change (TCells [.string x.t, .int .i64 x.a, .int .i64 x.i, .int .i64 x.k]).p (v 9) wq at h0
        refine ob_plain rfl ?_
        exact yld_field 59 1 (.tmp 21) rfl _ Try.underlying59 _ rfl 3 Try.sizeOf57 (by decide) [.string x.t, .int .i64 x.a, .int .i64 x.i, .int .i64 x.k] h0
      · intro wq hq hd
        obtain ⟨h0, -⟩ := hd
        change (TCells [.int .i64 x.a, .int .i64 x.i, .int .i64 x.k]).p (v 10) wq at h0
        refine ob_plain rfl ?_
        exact yld_field 57 1 (.tmp 22) rfl _ Try.underlying57 _ rfl 1 Try.sizeOf3 (by decide) [.int .i64 x.a, .int .i64 x.i, .int .i64 x.k] h0
      · intro wq hq hd
        obtain ⟨h0, -⟩ := hd
        change (TCells [.int .i64 x.i]).p (v 11) wq at h0
        refine ob_plain rfl ?_
        exact yld_loadOne 3 (.tmp 23) rfl Try.isAgg3 (c := .int .i64 x.i) h0 rfl
      · intro wq hq hd
        obtain ⟨h0, h1, -⟩ := hd
        change v 6 = _ at h0
        change v 12 = _ at h1
        refine ob_plain rfl ?_
        exact yld_build 83 [(0, _), (1, _)] rfl [(0, .int .i64 x.a), (1, .int .i64 x.i)] ⟨⟨rfl, h0⟩, ⟨rfl, h1⟩, trivial⟩ (fun w => by go_simp) rfl
      · intro wq hq hd
        obtain ⟨h0, h1, -⟩ := hd
        change v 0 = _ at h0
        change v 13 = _ at h1
        refine ob_plain rfl ?_
        refine yld_call 60 Try.call60 _ _ rfl rfl [_, _] ⟨h0, h1, trivial⟩ ?_
        refine (add_any Ao co xs (refOf x) wq (Hso.out wq hq) hco (by omega)).mono ?_
        rintro e w' ⟨A2, c2, rfl, hc2, hs2, hx2⟩
        exact ⟨_, rfl, hx2, A2, c2, rfl, hc2, hs2⟩
      · intro wq hq hd
        obtain ⟨h0, h1, h2, h3, h4, h5, h6, h7, h8, h9, h10, h11, h12, h13, h14, h15, h16, -⟩ := hd
        change (TSl refEl (addR (refOf x) xs)).p (v 14) wq at h0
        refine ob_plain rfl ?_
        exact yld_assign (.tmp 26) rfl rfl h0
      · intro wq hq hT
        have k14 := hT 14 (by decide)
        change (TSl refEl (addR (refOf x) xs)).p (v 14) wq at k14
        have k15 := hT 15 (by decide)
        change (TSl refEl (addR (refOf x) xs)).p (v 15) wq at k15
        clear hT
        simp only [List.drop_succ_cons, List.drop_zero, putE, setsE, List.set_cons_succ, List.set_cons_zero, Nat.reduceAdd]
        generalize v 14 = x14 at k14 ⊢
        generalize v 15 = x15 at k15 ⊢
        obtain ⟨A2, c2, e2, hc2, hs2⟩ := k15
        subst e2
        have hext2 := hext.trans hq
        have Hs2 := Lib.hid hs2
        clear hs2 k14 hq
        go_wp2
        go_roundw
        case rel => exact ⟨k + 1, by omega, by go_num, A2, c2, _, rfl, hc2, by omega, Hxs2, Hs2, hext2⟩
        case measure => simp [intOf]; omega
    · obtain rfl : k = l.length := by omega
      have d2 : decide ((l.length : Int) < (l.length : Int)) = false := decide_eq_false (by omega)
      have Hxs2 := Lib.hid (show xs = authR l by have := Hxs.out; rwa [List.take_length] at this)
      go_wp2
      go_ret
      rw [← Hxs2.out]
      exact ⟨_, _, rfl, hco, Hsx.out, hext⟩

/-- at no element -/
theorem sortNone_any (w : World) : Calls Try.prog 55 #[.slice none 0 0, .func (.func 56) #[] #[]] w fun e w' => e = .returned (.tuple #[]) ∧ w' = w :=
  AnyF.slices_SortFunc_none Try.sortItem none 0 (.func (.func 56) #[] #[]) w
set_option maxRecDepth 100000 in
set_option maxHeartbeats 1600000 in
theorem compactNone_any (w : World) : Calls Try.prog 59 #[.slice none 0 0] w fun e w' => e = .returned (.slice none 0 0) ∧ w' = w := by
  go_enter Try.func59, Try.ntmps59
  go_wp2
  go_ret
  exact ⟨rfl, rfl⟩

theorem map_take_refOf {l : List GWord} {k : Nat} (h : k < l.length) : (l.take (k + 1)).map refOf = (l.take k).map refOf ++ [refOf l[k]] := by
  rw [List.take_succ_eq_append_getElem h, List.map_append]; rfl

set_option maxRecDepth 100000 in
set_option maxHeartbeats 1600000 in
theorem authors_any (A : Option Addr) (c : Nat) (l : List GWord) (w : World) (hs : Sl wordEl w A l) (hn : l.length ≤ 1000000) :
    Calls Try.prog 32 #[.slice A l.length c] w (RetR w (authR l)) := by
  go_enter Try.func32, Try.ntmps32
  go_wp2
  go_loopw [3, 8] (fun out ii wr => ∃ k : Nat, k ≤ l.length ∧ ii = .int .i64 k ∧ Own refEl w.heap.size wr out ((l.take k).map refOf) ∧ Ext w wr) (fun _ ii _ => l.length - (intOf ii).toNat)
  case atStart => exact ⟨0, Nat.zero_le _, rfl, Own.nil _, Ext.refl _⟩
  case round =>
    obtain ⟨k, hk, rfl, hown, hext⟩ := hrel
    by_cases hlt : k < l.length
    · obtain ⟨b, off, rfl, hb, hc, hc1, hc2, hc3⟩ := wordAt hs hlt
      have hcr := (hext.cell (p := ⟨b, off + k * 4, none⟩) hb).trans hc
      have hcr1 := (hext.cell (p := ⟨b, off + k * 4 + 1, none⟩) hb).trans hc1
      have hcr2 := (hext.cell (p := ⟨b, off + k * 4 + 2, none⟩) hb).trans hc2
      have hcr3 := (hext.cell (p := ⟨b, off + k * 4 + 3, none⟩) hb).trans hc3
      have hsz := hext.size
      obtain ⟨x, hxk⟩ : ∃ x, l[k] = x := ⟨_, rfl⟩
      rw [hxk] at hcr hcr1 hcr2 hcr3
      have Hs := Lib.hid hxk
      clear hc hc1 hc2 hc3 hxk
      have hc1 : ((l.take k).map refOf).length + 1 ≤ 68719476736 := by rw [List.length_map, List.length_take]; omega
      go_wp2_with (at_builtin; refine wpList_app refEl rfl _ _ rfl 1 rfl (hown.ext (((Ext.refl _).alloc _).alloc _)) (ys := [refOf x]) rfl (Sl.new' refEl (by simp) rfl) hc1 (by simp; omega) ?_; intro v' w1 hown' hb1 hg1)
      have hext' : Ext w w1 := ((hext.alloc _).alloc _).trans' hb1
      go_wp2
      go_roundw
      case rel => exact ⟨k + 1, by omega, by go_num, by rw [map_take_refOf hlt, Hs.out]; exact hown', hext'⟩
      case measure => simp [intOf]; omega
    · obtain rfl : k = l.length := by omega
      rw [List.take_length] at hown
      rcases hown.2 with ⟨hv, h0⟩ | ⟨g, cap, cur, hv, hg, -⟩
      · subst hv
        have hl0 : l = [] := List.eq_nil_of_length_eq_zero (by simpa using h0)
        have HL := Lib.hid (show authR l = [] by rw [hl0]; rfl)
        clear h0 hl0
        go_wp2_with fail
        refine (sortNone_any _).mono ?_
        rintro e w' ⟨rfl, rfl⟩
        go_wp2_with fail
        refine (compactNone_any _).mono ?_
        rintro e w' ⟨rfl, rfl⟩
        go_wp2
        go_ret
        rw [HL.out]
        exact ⟨none, 0, rfl, Nat.le_refl _, Sl.nil, hext⟩
      · subst hv
        have Hown := Lib.hid hown
        clear hown
        have hlm : (l.map refOf).length = l.length := by simp
        obtain ⟨ms, hms⟩ : ∃ ms, l.map refOf = ms := ⟨_, rfl⟩
        rw [hms] at Hown hlm ⊢
        have Hms := Lib.hid hms
        have hmn : ms.length ≤ 1048576 := by omega
        have Hlm := Lib.hid hlm
        clear hms hlm
        go_wp2_with fail
        refine (sortRef_any w.heap.size g cap ms wr Hown.out hmn).mono ?_
        rintro e w1 ⟨rfl, ys, hp, hsrt, ho, hkp⟩
        have hl2 : ms.length = ys.length := hp.length_eq
        have hcm := compact_any w.heap.size g cap ys w1 ho (by omega)
        rw [← hl2] at hcm
        have HC := Lib.hid hcm
        have HD := Lib.hid (show ddL ys = authR l from auth_law (Hms.out ▸ hp) hsrt)
        have hx1 : Ext w w1 := hkp.toExt hext hg
        clear hcm hp hsrt ho hl2 hkp
        go_wp2_with fail
        refine HC.out.mono ?_
        rintro e w2 ⟨A2, c2, rfl, hc2, hs2, hkp2⟩
        have hx2 : Ext w w2 := hkp2.toExt hx1 hg
        rw [HD.out] at hc2 hs2 ⊢
        go_wp2
        go_ret
        exact ⟨_, _, rfl, hc2, hs2, hx2⟩

end Go.Proofs.Ytkbmocgjbhmioaa

