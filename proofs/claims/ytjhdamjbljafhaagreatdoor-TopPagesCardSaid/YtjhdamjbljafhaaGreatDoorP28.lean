/- paginate.row: the words of a unit as they are printed. Comparisons of strings; small laws on lists. -/
import Derived.Test.YtjhdamjbljafhaaGreatDoorP26
import Derived.Test.YtjhdamjbljafhaaGreatDoorP06
import Derived.Test.YtjhdamjbljafhaaGreatDoorP03
import Derived.OneCell
namespace Go.Proofs.YtjhdamjbljafhaaGreatDoor
open Go.RowKit
theorem Own.other {P : Program} {α β : Type} {D : El P α} {E : El P β} {w w' : World} {v u : Value} {base base2 : Nat} {xs : List α} {ys : List β} (h : Own D base w v xs) (h2 : Own E base2 w u ys) (ht : D.e ≠ E.e) (hg : w.grownBy w' u.ownBlock) : Own D base w' v xs := by
  refine h.keep fun k hk => ?_
  rcases h.2 with ⟨rfl, _⟩ | ⟨g, cap, cur, rfl, _, hh, _⟩
  · cases hk
  · cases hk
    refine hg.block _ (block_lt hh) fun e => ?_
    rcases h2.2 with ⟨rfl, _⟩ | ⟨g2, cap2, cur2, rfl, _, hh2, _⟩
    · cases e
    · cases e
      rw [hh] at hh2
      simp only [Option.some.injEq, Obj.cells.injEq] at hh2
      exact ht hh2.2.1
def rowF (u : GUnit) : List ByteArray := kindS u.kind :: u.label :: (u.head ++ u.words).map GWord.t
theorem rowF_len (u : GUnit) : (rowF u).length = 2 + u.head.length + u.words.length := by simp [rowF]; omega
set_option maxRecDepth 100000 in
set_option maxHeartbeats 3200000 in
theorem rowU_any (u : GUnit) (r : RUnit) (w : World) (hr : Reads w u r) (hok : OkU u) (hT : Tabs w) : Calls Tryz.prog 99 #[.agg r.cells.toArray] w (RetOwn strEl w (rowF u)) := by
  obtain ⟨-, hkd, hlb, hhn, hhc, hhs, hwn, hwc, hws, -, -, -⟩ := hr.flds
  obtain ⟨o1, o2, o3, o4, o5, o6⟩ := hok.all.head
  unfold rowF
  rw [← hkd, ← hlb]
  have hb := BoxU.new r w
  have hx0 : Ext w (w.alloc (.cells r.cells.toArray 27)) := (Ext.refl w).alloc _
  obtain ⟨hdl, hhd⟩ : ∃ hdl, u.head = hdl := ⟨_, rfl⟩
  obtain ⟨wd, hwd⟩ : ∃ wd, u.words = wd := ⟨_, rfl⟩
  rw [hhd] at hhn hhc hhs o2 ⊢
  rw [hwd] at hwn hwc hws o3 ⊢
  obtain ⟨ra, ri, rn, rk, rl, hdA, hn, hc, wA, wn, wc, kA, kn, kc⟩ := r
  dsimp only at hhn hhc hhs hwn hwc hws ⊢
  subst hhn hwn
  simp only [RUnit.cells] at hb hx0 ⊢
  obtain ⟨wb, hwb⟩ : ∃ wb, w.alloc (.cells #[.int .i64 ra, .int .i64 ri, .int .i64 rn, .int .i64 rk, .string rl, .slice hdA hdl.length hc, .slice wA wd.length wc, .slice kA kn kc] 27) = wb := ⟨_, rfl⟩
  rw [hwb] at hb hx0
  have Hkn := Lib.hid (fun wq (he : Ext wb wq) => kindName_any rk wq ((hT.ext hx0).ext he))
  have Hbt := Lib.hid (fun wq (he : Ext wb wq) => (hb.ext he).t)
  have Hbx := Lib.hid hb
  obtain ⟨S, hS⟩ : ∃ S, kindS rk = S := ⟨_, rfl⟩
  rw [hS] at Hkn ⊢
  have Hhs := Lib.hid (hhs.ext hx0)
  have Hws := Lib.hid (hws.ext hx0)
  have Hx0 := Lib.hid hx0
  have hsz0 := hx0.size
  have Hwb := Lib.hid hwb
  clear hS hb hhc hwc hhs hws hr hok hT o1 o4 o5 o6 hhd hwd hkd hlb hwb hx0
  go_enter Tryz.func99, Tryz.ntmps99
  go_wp2
  rw [Hwb.out]
  refine wp_drawn (by kernel_rfl) (fun i => match i with | 0 => TCells [.int .i64 rk] | 1 => Ty.is (.int .i64 rk) | 2 => Ty.is (.string S) | 3 => TCells [.string rl] | 4 => Ty.is (.string rl) | 5 => TOwn strEl wb.heap.size [S, rl] | 6 => TOwn strEl wb.heap.size [S, rl] | _ => Ty.any) (by kernel_rfl) rfl ?_
  intro v
  refine ⟨?_, ?_, ?_, ?_, ?_, ?_, ?_, ?_⟩
  · intro wq hq hd
    refine ob_plain rfl ?_
    exact yld_field 27 1 (.tmp 1) rfl _ Tryz.underlying27 _ rfl 1 Tryz.sizeOf3 (by decide) [.int .i64 ra, .int .i64 ri, .int .i64 rn, .int .i64 rk, .string rl, .slice hdA hdl.length hc, .slice wA wd.length wc, .slice kA kn kc] ((Hbt.out _ hq))
  · intro wq hq hd
    obtain ⟨h0, -⟩ := hd
    change (TCells [.int .i64 rk]).p (v 0) wq at h0
    refine ob_plain rfl ?_
    exact yld_loadOne 3 (.tmp 6) rfl Tryz.isAgg3 (c := .int .i64 rk) h0 rfl
  · intro wq hq hd
    obtain ⟨h0, -⟩ := hd
    change v 1 = _ at h0
    refine ob_plain rfl ?_
    refine yld_call 70 Tryz.call70 _ _ rfl rfl [_] ⟨h0, trivial⟩ ?_
    refine (Hkn.out _ hq).mono ?_
    rintro e w' ⟨rfl, rfl⟩
    exact ⟨_, rfl, Ext.refl _, rfl⟩
  · intro wq hq hd
    refine ob_plain rfl ?_
    exact yld_field 27 2 (.tmp 1) rfl _ Tryz.underlying27 _ rfl 1 Tryz.sizeOf9 (by decide) [.int .i64 ra, .int .i64 ri, .int .i64 rn, .int .i64 rk, .string rl, .slice hdA hdl.length hc, .slice wA wd.length wc, .slice kA kn kc] ((Hbt.out _ hq))
  · intro wq hq hd
    obtain ⟨h0, -⟩ := hd
    change (TCells [.string rl]).p (v 3) wq at h0
    refine ob_plain rfl ?_
    exact yld_loadOne 9 (.tmp 9) rfl Tryz.isAgg9 (c := .string rl) h0 rfl
  · intro wq hq hd
    obtain ⟨h0, h1, -⟩ := hd
    change v 2 = _ at h0
    change v 4 = _ at h1
    refine ob_plain rfl ?_
    exact yld_buildSlice strEl 2 [(0, _), (1, _)] rfl [(0, .string S), (1, .string rl)] ⟨⟨rfl, h0⟩, ⟨rfl, h1⟩, trivial⟩ _ hq.size _ rfl (by decide) (fun w => by change (Instr.buildSlice 34 2 _).run _ w = _; go_simp; rfl)
  · intro wq hq hd
    obtain ⟨h0, h1, h2, h3, h4, h5, h6, h7, -⟩ := hd
    change (TOwn strEl wb.heap.size [S, rl]).p (v 5) wq at h0
    refine ob_plain rfl ?_
    exact yld_assign (.tmp 11) rfl rfl h0
  · intro wq hq hT
    have k6 := hT 6 (by decide)
    change (TOwn strEl wb.heap.size [S, rl]).p (v 6) wq at k6
    clear hT
    simp only [List.drop_succ_cons, List.drop_zero, putE, setsE, List.set_cons_succ, List.set_cons_zero, Nat.reduceAdd]
    generalize v 6 = x6 at k6 ⊢
    have Hown3 := Lib.hid k6
    obtain ⟨A3, c3, rfl, -, -⟩ := k6.form
    obtain ⟨hb0, c0, c1, c2, c3', c4, c5, c6, c7⟩ := Hbx.out.ext hq
    dsimp only at c0 c1 c2 c3' c4 c5 c6 c7
    obtain ⟨W, hW⟩ : ∃ W, hdl ++ wd = W := ⟨_, rfl⟩
    have hWl : W.length ≤ 600 := by rw [← hW, List.length_append]; omega
    have Hcat := Lib.hid (show ∀ w', Ext wq w' → Calls Tryz.prog 138 #[.slice (some ⟨wq.heap.size, 0, none⟩) 2 2] (wq.alloc (.cells #[.slice hdA hdl.length hc, .slice wA wd.length wc] 24)) (RetOwn wordEl (wq.alloc (.cells #[.slice hdA hdl.length hc, .slice wA wd.length wc] 24)) W) from fun _ _ => by
      have h := concatW_any (some ⟨wq.heap.size, 0, none⟩) 2 [(hdA, hc, hdl), (wA, wc, wd)] (wq.alloc (.cells #[.slice hdA hdl.length hc, .slice wA wd.length wc] 24)) (Sl.new slsWEl rfl) (by
        intro x hx
        simp only [List.mem_cons, List.not_mem_nil, or_false] at hx
        rcases hx with rfl | rfl
        · exact (Hhs.out.ext hq).ext ((Ext.refl _).alloc _)
        · exact (Hws.out.ext hq).ext ((Ext.refl _).alloc _)) (by simp) (by simp [cat]; omega)
      rw [show cat [(hdA, hc, hdl), (wA, wc, wd)] = W by rw [← hW]; simp [cat]] at h
      exact h)
    have hxq : Ext wq (wq.alloc (.cells #[.slice hdA hdl.length hc, .slice wA wd.length wc] 24)) := (Ext.refl _).alloc _
    have Hcat2 := Lib.hid (Hcat.out _ (Ext.refl _))
    have HW := Lib.hid hW
    have Hq := Lib.hid hq
    clear hW k6 hq Hcat
    go_wp2_with fail
    refine (Hcat2.out).mono ?_
    rintro e w1 ⟨v1, rfl, hown1, hx1⟩
    obtain ⟨A4, c4', rfl, -, -⟩ := hown1.form
    have Hs4 := Lib.hid (hown1.mono (show wb.heap.size ≤ _ by have := Hq.out.size; have := hxq.size; omega))
    have Hx01 := Lib.hid (hxq.trans hx1)
    have Hown4 := Lib.hid (Hown3.out.ext (hxq.trans hx1))
    have hszq := Hq.out.size
    have hsz1 := Hx01.out.size
    clear hown1 hx1 hxq Hown3 Hcat2 c0 c1 c2 c3' c4 c5 c6 c7 hb0
    go_wp2
    go_loopw [3, 19] (fun vo vk wr => ∃ (k : Nat) (xs : List ByteArray), k ≤ W.length ∧ vk = .int .i64 (k : Nat) ∧ Hid (xs = S :: rl :: (W.take k).map GWord.t) ∧ Own strEl wb.heap.size wr vo xs ∧ Hid (Own wordEl wb.heap.size wr (.slice A4 W.length c4') W) ∧ Ext wb wr) (fun _ vk _ => W.length - (intOf vk).toNat)
    case atStart => exact ⟨0, [S, rl], Nat.zero_le _, rfl, Lib.hid rfl, Hown4.out, Hs4, Hq.out.trans Hx01.out⟩
    case round =>
      obtain ⟨k, xs, hk, rfl, Hxs, hown, HW4, hext⟩ := hrel
      have hsl4 : Sl wordEl wr A4 W := by
        obtain ⟨A', c', hv, -, hs⟩ := HW4.out.form
        cases hv
        exact hs
      have hxl : xs.length ≤ k + 2 := by rw [Hxs.out]; simp; omega
      obtain ⟨Ao, co, rfl, -, hso⟩ := hown.form
      by_cases hlt : k < W.length
      · obtain ⟨q, hq⟩ : ∃ q, W[k] = q := ⟨_, rfl⟩
        obtain ⟨b, off, hAe, hb, u0, u1, u2, u3⟩ := wordAt hsl4 hlt
        have Hstep := Lib.hid (show xs ++ [q.t] = S :: rl :: (W.take (k + 1)).map GWord.t by rw [Hxs.out, List.take_succ_eq_append_getElem hlt, hq]; simp)
        rw [hq] at u0 u1 u2 u3
        subst hAe
        have d1 : decide ((k : Int) < (W.length : Int)) = true := decide_eq_true (by omega)
        have hsz := hext.size
        have hxa := (((Ext.refl wr).alloc (.cells #[.string q.t, .int .i64 q.a, .int .i64 q.i, .int .i64 q.k] 105)).alloc (.cells #[.string q.t] 9))
        have Hown := Lib.hid (hown.ext hxa)
        have Hext := Lib.hid (hext.trans hxa)
        have HW4' := Lib.hid (HW4.out.ext hxa)
        clear hq hext hso hown hxa hsl4
        go_wp2_with (at_builtin; refine wpList_app strEl rfl (.tmp 23) (.tmp 26) rfl 1 rfl Hown.out (ys := [q.t]) rfl (Sl.new' strEl (by simp) rfl) (by simp; omega) (by simp; omega) ?_; intro v' w2 hown2 hext2 hg2; have HW5 := Lib.hid (HW4'.out.other Hown.out (by decide) hg2); clear hg2)
        go_roundw
        case rel => exact ⟨k + 1, xs ++ [q.t], by omega, by go_num, Hstep, hown2, HW5, Hext.out.trans' hext2⟩
        case measure => simp [intOf]; omega
      · have d1 : decide ((k : Int) < (W.length : Int)) = false := decide_eq_false (by omega)
        have hk2 : k = W.length := by omega
        have Hfin := Lib.hid (show xs = S :: rl :: (hdl ++ wd).map GWord.t by rw [Hxs.out, hk2, List.take_length, HW.out])
        have Hown := Lib.hid hown
        clear hk2 hown hso hsl4
        go_wp2
        go_ret
        exact ⟨_, rfl, by rw [← Hfin.out]; exact Hown.out.mono (by omega), Hx0.out.trans hext⟩
end Go.Proofs.YtjhdamjbljafhaaGreatDoor
namespace Go.Proofs.YtjhdamjbljafhaaGreatDoor
open Go.RowKit
theorem ret_bool54 {a b : Bool} (h : a = b) : Ending.returned (.bool a) = .returned (.bool b) := by rw [h]
end Go.Proofs.YtjhdamjbljafhaaGreatDoor
namespace Go.Proofs.YtjhdamjbljafhaaGreatDoor
open Go.RowKit
def briefP (l : List ByteArray) (n : Nat) : Prop := l.length ≤ n ∧ ∀ s ∈ l, s.size ≤ 300
def unfitB (W : Int) (s : ByteArray) : Bool := decide ((s.size : Int) < 1) || decide ((s.size : Int) > W)
def wrongF (W : Int) (l : List ByteArray) : Int := if W < 1 ∨ W > 200 then 3 else if l.length > 1024 then 6 else if l.any (unfitB W) = true then 1 else 0
end Go.Proofs.YtjhdamjbljafhaaGreatDoor
namespace Go.Proofs.YtjhdamjbljafhaaGreatDoor
open Go.RowKit
def Has1 (w : World) (b : Nat) (x : Int) : Prop := w.heap[b]? = some (.cells #[.int .i64 x] 3 (0, 0))
theorem Has1.ext {w w' : World} {b : Nat} {x : Int} (h : Has1 w b x) (he : Ext w w') : Has1 w' b x := (he.block (lt_of_block h)).trans h
set_option maxHeartbeats 400000 in
theorem unfit_any (s : ByteArray) (W : Int) (B : Nat) (w : World) (hb : Has1 w B W) : Calls Tryz.prog 172 #[.string s, .pointer (some ⟨B, 0, none⟩)] w fun e w' => e = .returned (.bool (unfitB W s)) ∧ w = w' := by
  have hc : w.cell? ⟨B, 0, none⟩ = some (.int .i64 W) := cell_of_one hb
  unfold unfitB
  by_cases h1 : (s.size : Int) < 1
  · have d1 : decide ((s.size : Int) < 1) = true := decide_eq_true h1
    rw [d1, Bool.true_or]
    go_enter Tryz.func172, Tryz.ntmps172
    go_wp2
    go_ret
    exact ⟨rfl, rfl⟩
  · have d1 : decide ((s.size : Int) < 1) = false := decide_eq_false h1
    rw [d1, Bool.false_or]
    go_enter Tryz.func172, Tryz.ntmps172
    go_wp2
    go_ret
    exact ⟨rfl, rfl⟩
set_option maxRecDepth 100000 in
set_option maxHeartbeats 1600000 in
theorem idxUnfit_any (A : Option Addr) (c : Nat) (l : List ByteArray) (W : Int) (B : Nat) (w : World) (hs : Sl strEl w A l) (hb : Has1 w B W) (hn : l.length ≤ 9223372036854775807) :
    Calls Tryz.prog 190 #[.slice A l.length c, .func (.func 172) #[] #[.pointer (some ⟨B, 0, none⟩)]] w fun e w' => ∃ z : Int, e = .returned (.int .i64 z) ∧ decide (z ≥ 0) = l.any (unfitB W) ∧ Ext w w' := by
  have Hb := Lib.hid hb
  clear hb
  go_enter Tryz.func190, Tryz.ntmps190
  go_wp2
  go_loopw [8] (fun i wr => ∃ k : Nat, k ≤ l.length ∧ i = .int .i64 k ∧ Hid ((l.take k).any (unfitB W) = false) ∧ Ext w wr) (fun i _ => l.length - (intOf i).toNat)
  case atStart => exact ⟨0, Nat.zero_le _, rfl, Lib.hid (by simp), Ext.refl _⟩
  case round =>
    obtain ⟨k, hk, rfl, Hk, hext⟩ := hrel
    by_cases hlt : k < l.length
    · obtain ⟨b, off, rfl, hbl, u0⟩ := strAt (hs.ext hext) hlt
      have Htk := Lib.hid (show (l.take (k + 1)).any (unfitB W) = ((l.take k).any (unfitB W) || unfitB W l[k]) by rw [List.take_succ_eq_append_getElem hlt, List.any_append]; simp)
      have Hmem := Lib.hid (List.getElem_mem hlt)
      obtain ⟨s, hq⟩ : ∃ s, l[k] = s := ⟨_, rfl⟩
      rw [hq] at u0 Htk Hmem
      have ho := unfit_any s W B wr (Hb.out.ext hext)
      obtain ⟨bb, hbb⟩ : ∃ bb, unfitB W s = bb := ⟨_, rfl⟩
      rw [hbb] at ho Htk
      have Ho := Lib.hid ho
      have Hbb := Lib.hid hbb
      clear ho hq hbb
      cases bb with
      | false =>
        go_wp2_with fail
        refine (Ho.out).mono ?_
        rintro e w2 ⟨rfl, rfl⟩
        go_wp2
        go_roundw
        case rel => exact ⟨k + 1, by omega, by go_num, Lib.hid (by rw [Htk.out, Hk.out]; rfl), hext⟩
        case measure => simp [intOf]; omega
      | true =>
        have Hf := Lib.hid (show l.any (unfitB W) = true from List.any_eq_true.2 ⟨s, Hmem.out, Hbb.out⟩)
        go_wp2_with fail
        refine (Ho.out).mono ?_
        rintro e w2 ⟨rfl, rfl⟩
        go_wp2
        go_ret
        exact ⟨k, rfl, by rw [Hf.out]; simp, hext⟩
    · have hkl : k = l.length := by omega
      have h3 := Hk.out
      rw [List.take_of_length_le (by omega)] at h3
      have H3 := Lib.hid h3
      clear h3 hkl
      go_wp2
      go_ret
      exact ⟨-1, rfl, by rw [H3.out]; rfl, hext⟩
set_option maxRecDepth 100000 in
set_option maxHeartbeats 800000 in
theorem hasUnfit_any (A : Option Addr) (c : Nat) (l : List ByteArray) (W : Int) (B : Nat) (w : World) (hs : Sl strEl w A l) (hb : Has1 w B W) (hn : l.length ≤ 9223372036854775807) :
    Calls Tryz.prog 173 #[.slice A l.length c, .func (.func 172) #[] #[.pointer (some ⟨B, 0, none⟩)]] w fun e w' => e = .returned (.bool (l.any (unfitB W))) ∧ Ext w w' := by
  have hi := idxUnfit_any A c l W B w hs hb hn
  obtain ⟨bb, hbb⟩ : ∃ bb, l.any (unfitB W) = bb := ⟨_, rfl⟩
  simp only [hbb] at hi
  rw [hbb]
  have Hi := Lib.hid hi
  clear hi hbb hs hb
  go_enter Tryz.func173, Tryz.ntmps173
  go_wp2_with fail
  refine (Hi.out).mono ?_
  rintro e w2 ⟨z, rfl, hz, hx2⟩
  go_wp2
  go_ret
  exact ⟨rfl, hx2⟩
theorem wrongF_range {W : Int} {l : List ByteArray} (h : W < 1 ∨ W > 200) : wrongF W l = 3 := by simp [wrongF, h]
theorem wrongF_full {W : Int} {l : List ByteArray} (h : ¬ (W < 1 ∨ W > 200)) (h2 : l.length > 1024) : wrongF W l = 6 := by simp only [wrongF, if_neg h, if_pos h2]
theorem wrongF_arg {W : Int} {l : List ByteArray} (h : ¬ (W < 1 ∨ W > 200)) (h2 : ¬ l.length > 1024) (h3 : l.any (unfitB W) = true) : wrongF W l = 1 := by simp only [wrongF, if_neg h, if_neg h2, if_pos h3]
theorem wrongF_ok {W : Int} {l : List ByteArray} (h : ¬ (W < 1 ∨ W > 200)) (h2 : ¬ l.length > 1024) (h3 : l.any (unfitB W) = false) : wrongF W l = 0 := by
  simp only [wrongF, if_neg h, if_neg h2, h3]
  simp
set_option maxRecDepth 100000 in
set_option maxHeartbeats 800000 in
theorem wrong_any (A : Option Addr) (c : Nat) (l : List ByteArray) (W : Int) (w : World) (hs : Sl strEl w A l) (hn : l.length ≤ 9223372036854775807) :
    Calls Tryz.prog 139 #[.int .i64 W, .slice A l.length c] w fun e w' => e = .returned (.int .i64 (wrongF W l)) ∧ Ext w w' := by
  have hx : Ext w (w.alloc (.cells #[.int .i64 W] 3)) := (Ext.refl w).alloc _
  have hu := hasUnfit_any A c l W w.heap.size (w.alloc (.cells #[.int .i64 W] 3)) (hs.ext hx) (heap_alloc_new w _) hn
  by_cases h1 : W < 1
  · have d1 : decide (W < 1) = true := decide_eq_true h1
    rw [wrongF_range (.inl h1)]
    clear hu
    go_enter Tryz.func139, Tryz.ntmps139
    go_wp2
    go_ret
    exact ⟨rfl, hx⟩
  · have d1 : decide (W < 1) = false := decide_eq_false h1
    by_cases h2 : W > 200
    · have d2 : decide (W > 200) = true := decide_eq_true h2
      rw [wrongF_range (.inr h2)]
      clear hu
      go_enter Tryz.func139, Tryz.ntmps139
      go_wp2
      go_ret
      exact ⟨rfl, hx⟩
    · have d2 : decide (W > 200) = false := decide_eq_false h2
      have hr : ¬ (W < 1 ∨ W > 200) := by omega
      by_cases h3 : l.length > 1024
      · have d3 : decide ((l.length : Int) > 1024) = true := decide_eq_true (by omega)
        rw [wrongF_full hr h3]
        clear hu
        go_enter Tryz.func139, Tryz.ntmps139
        go_wp2
        go_ret
        exact ⟨rfl, hx⟩
      · have d3 : decide ((l.length : Int) > 1024) = false := decide_eq_false (by omega)
        obtain ⟨q, hq⟩ : ∃ q, l.any (unfitB W) = q := ⟨_, rfl⟩
        rw [hq] at hu
        have Hu := Lib.hid hu
        have hw : wrongF W l = if q = true then 1 else 0 := by
          cases q
          · exact wrongF_ok hr h3 hq
          · exact wrongF_arg hr h3 hq
        rw [hw]
        clear hu hq hw
        go_enter Tryz.func139, Tryz.ntmps139
        cases q
        all_goals
          go_wp2_with fail
          refine (Hu.out).mono ?_
          rintro e w2 ⟨rfl, hx2⟩
          go_wp2
          go_ret
          exact ⟨rfl, hx.trans hx2⟩
end Go.Proofs.YtjhdamjbljafhaaGreatDoor
namespace Go.Proofs.YtjhdamjbljafhaaGreatDoor
open Go.RowKit
def posF (l : List ByteArray) (i : Nat) : Nat := ((l.take i).map fun s => s.size + 1).sum
theorem posF_succ {l : List ByteArray} {i : Nat} (h : i < l.length) : posF l (i + 1) = posF l i + l[i].size + 1 := by
  unfold posF
  rw [List.take_succ_eq_append_getElem h, List.map_append, List.sum_append]
  simp
  omega
theorem posF_mono (l : List ByteArray) (i : Nat) : ∀ k, i ≤ k → posF l i ≤ posF l k := by
  intro k h
  induction k with
  | zero => obtain rfl : i = 0 := by omega
            exact Nat.le_refl _
  | succ k ih =>
    rcases Nat.lt_or_ge i (k + 1) with h1 | h1
    · have h2 := ih (by omega)
      rcases Nat.lt_or_ge k l.length with h3 | h3
      · rw [posF_succ h3]; omega
      · have : posF l (k + 1) = posF l k := by
          unfold posF
          rw [List.take_of_length_le (by omega), List.take_of_length_le h3]
        omega
    · obtain rfl : i = k + 1 := by omega
      exact Nat.le_refl _
theorem posF_le {l : List ByteArray} {n : Nat} (h : briefP l n) : ∀ i, i ≤ l.length → posF l i ≤ 301 * i
  | 0, _ => Nat.le_refl _
  | i + 1, hi => by
    have h1 := posF_le h i (by omega)
    have h2 := h.2 l[i] (List.getElem_mem (by omega))
    rw [posF_succ (by omega)]
    omega
def lenF (l : List ByteArray) (i k : Nat) : Int := (posF l k : Int) - posF l i - 1
theorem lenF_succ {l : List ByteArray} {i k : Nat} (h : k < l.length) : lenF l i (k + 1) = lenF l i k + (1 + (l[k].size : Int)) := by
  unfold lenF
  rw [posF_succ h]
  omega
def endsB (n : Int) : Int → List Int → Bool
  | a, [] => decide (a = n)
  | a, e :: es => (decide (a < e) && decide (e ≤ n)) && endsB n e es
theorem endsB_drop {n : Int} {es : List Int} {k : Nat} (hk : k < es.length) (a : Int) : endsB n a (es.drop k) = ((decide (a < es[k]) && decide (es[k] ≤ n)) && endsB n es[k] (es.drop (k + 1))) := by
  rw [List.drop_eq_getElem_cons hk, endsB]
set_option maxRecDepth 100000 in
set_option maxHeartbeats 1600000 in
theorem are_any (A : Option Addr) (c : Nat) (es : List Int) (lA : Option Addr) (lc n : Nat) (w : World) (hs : Sl intEl w A es) (hn : es.length ≤ 9223372036854775807) (hn2 : n ≤ 9223372036854775807) :
    Calls Tryz.prog 142 #[.slice A es.length c, .slice lA n lc] w fun e w' => e = .returned (.bool (endsB (n : Int) 0 es)) ∧ Ext w w' := by
  go_enter Tryz.func142, Tryz.ntmps142
  go_wp2
  go_loopw [5, 7, 10] (fun a u i wr => ∃ (k : Nat) (x : Int), k ≤ es.length ∧ i = .int .i64 k ∧ a = .int .i64 x ∧ Hid (endsB (n : Int) 0 es = endsB (n : Int) x (es.drop k)) ∧ Ext w wr) (fun _ _ i _ => es.length - (intOf i).toNat)
  case atStart => exact ⟨0, 0, Nat.zero_le _, rfl, rfl, Lib.hid rfl, Ext.refl _⟩
  case round =>
    obtain ⟨k, x, hk, rfl, rfl, Hk, hext⟩ := hrel
    by_cases hlt : k < es.length
    · obtain ⟨b, off, rfl, hbl, u0⟩ := intAt (hs.ext hext) hlt
      have Htk := Lib.hid (endsB_drop (n := (n : Int)) hlt x)
      obtain ⟨y, hq⟩ : ∃ y, es[k] = y := ⟨_, rfl⟩
      rw [hq] at u0 Htk
      clear hq
      by_cases e1 : y ≤ x
      · have d1 : decide (y ≤ x) = true := decide_eq_true e1
        have Hf := Lib.hid (show endsB (n : Int) 0 es = false by rw [Hk.out, Htk.out, decide_eq_false (show ¬ x < y by omega)]; rfl)
        go_wp2
        go_ret
        exact ⟨ret_bool54 Hf.out.symm, hext⟩
      · have d1 : decide (y ≤ x) = false := decide_eq_false e1
        by_cases e2 : y > (n : Int)
        · have d2 : decide (y > (n : Int)) = true := decide_eq_true e2
          have Hf := Lib.hid (show endsB (n : Int) 0 es = false by rw [Hk.out, Htk.out, decide_eq_false (show ¬ y ≤ (n : Int) by omega)]; simp)
          go_wp2
          go_ret
          exact ⟨ret_bool54 Hf.out.symm, hext⟩
        · have d2 : decide (y > (n : Int)) = false := decide_eq_false e2
          have Hn := Lib.hid (show endsB (n : Int) 0 es = endsB (n : Int) y (es.drop (k + 1)) by rw [Hk.out, Htk.out, decide_eq_true (show x < y by omega), decide_eq_true (show y ≤ (n : Int) by omega)]; rfl)
          go_wp2
          go_roundw
          case rel => exact ⟨k + 1, y, by omega, by go_num, rfl, Hn, hext⟩
          case measure => simp [intOf]; omega
    · have hkl : k = es.length := by omega
      have h3 := Hk.out
      rw [List.drop_of_length_le (by omega)] at h3
      have H3 := Lib.hid h3
      clear h3 hkl
      go_wp2
      go_ret
      exact ⟨ret_bool54 (by rw [H3.out]; rfl), hext⟩
end Go.Proofs.YtjhdamjbljafhaaGreatDoor
namespace Go.Proofs.YtjhdamjbljafhaaGreatDoor
open Go.RowKit
def gE (l : List ByteArray) (W : Int) (i : Nat) : Nat → Nat
  | 0 => i
  | f + 1 => if gE l W i f < l.length ∧ lenF l i (gE l W i f + 1) ≤ W then gE l W i f + 1 else gE l W i f
def gF (l : List ByteArray) (W : Int) (i : Nat) : Nat := gE l W i (l.length - i)
structure IsG (l : List ByteArray) (W : Int) (i g : Nat) : Prop where
  ge : i ≤ g
  le : g ≤ l.length
  fit : ∀ e, i < e → e ≤ g → lenF l i e ≤ W
  stop : g = l.length ∨ W < lenF l i (g + 1)
theorem gE_is (l : List ByteArray) (W : Int) (i : Nat) (hi : i ≤ l.length) : ∀ f, i ≤ gE l W i f ∧ gE l W i f ≤ l.length ∧ (∀ e, i < e → e ≤ gE l W i f → lenF l i e ≤ W) ∧ (gE l W i f = i + f ∨ gE l W i f = l.length ∨ W < lenF l i (gE l W i f + 1))
  | 0 => ⟨Nat.le_refl _, hi, (fun e h1 h2 => by simp only [gE] at h2; omega), .inl rfl⟩
  | f + 1 => by
    obtain ⟨h1, h2, h3, h4⟩ := gE_is l W i hi f
    simp only [gE]
    split
    · rename_i h
      refine ⟨by omega, by omega, fun e he1 he2 => ?_, ?_⟩
      · rcases Nat.lt_or_ge (gE l W i f) e with h5 | h5
        · obtain rfl : e = gE l W i f + 1 := by omega
          exact h.2
        · exact h3 e he1 h5
      · rcases h4 with h4 | h4 | h4
        · exact .inl (by omega)
        · omega
        · omega
    · rename_i h
      refine ⟨h1, h2, h3, .inr ?_⟩
      rcases h4 with h4 | h4 | h4
      · by_cases h5 : gE l W i f < l.length
        · exact .inr (by have : ¬ lenF l i (gE l W i f + 1) ≤ W := fun h6 => h ⟨h5, h6⟩
                         omega)
        · exact .inl (by omega)
      · exact .inl h4
      · exact .inr h4
theorem gF_is {l : List ByteArray} (W : Int) {i : Nat} (hi : i ≤ l.length) : IsG l W i (gF l W i) := by
  obtain ⟨h1, h2, h3, h4⟩ := gE_is l W i hi (l.length - i)
  refine ⟨h1, h2, h3, ?_⟩
  unfold gF
  rcases h4 with h4 | h4 | h4
  · exact .inl (by omega)
  · exact .inl h4
  · exact .inr h4
structure Fit (W : Int) (l : List ByteArray) : Prop where
  brief : briefP l 602
  lo : 1 ≤ W
  hi : W ≤ 200
  pos : ∀ s ∈ l, 1 ≤ s.size
  fit : ∀ s ∈ l, (s.size : Int) ≤ W
theorem fit_of {W : Int} {l : List ByteArray} (h : wrongF W l = 0) (hb : briefP l 602) : Fit W l := by
  unfold wrongF at h
  split at h
  · cases h
  · split at h
    · cases h
    · split at h
      · cases h
      · rename_i h1 h2 h3
        have h4 : ∀ s ∈ l, unfitB W s = false := fun s hs => by
          cases hq : unfitB W s with
          | false => rfl
          | true => exact absurd (List.any_eq_true.2 ⟨s, hs, hq⟩) h3
        refine ⟨hb, by omega, by omega, fun s hs => ?_, fun s hs => ?_⟩
        · have := h4 s hs
          simp only [unfitB, Bool.or_eq_false_iff, decide_eq_false_iff_not] at this
          omega
        · have := h4 s hs
          simp only [unfitB, Bool.or_eq_false_iff, decide_eq_false_iff_not] at this
          omega
theorem Fit.lt {W : Int} {l : List ByteArray} (h : Fit W l) {i : Nat} (hi : i < l.length) : i < gF l W i := by
  have hg := gF_is W (show i ≤ l.length by omega)
  rcases Nat.lt_or_ge i (gF l W i) with h1 | h1
  · exact h1
  · exfalso
    have h2 := hg.ge
    have h3 : gF l W i = i := by omega
    have h4 := hg.stop
    rw [h3] at h4
    rcases h4 with h4 | h4
    · omega
    · have := h.fit l[i] (List.getElem_mem hi)
      rw [lenF_succ hi] at h4
      unfold lenF at h4
      omega
set_option maxRecDepth 100000 in
set_option maxHeartbeats 1600000 in
theorem each5_any (A : Option Addr) (c : Nat) (l : List ByteArray) (W : Int) (i g m : Nat) (fv0 fv1 fv2 fv3 fv4 : Value) (Inv : Nat → World → Prop) (w : World) (hread : ∀ e w', Inv e w' → Sl strEl w' A l)
    (hg : IsG l W i g) (hb : briefP l m) (hm : m ≤ 602) (hW : W ≤ 200) (hstep : ∀ (e : Nat) w', i ≤ e → e < g → Inv e w' → Calls Tryz.prog 141 #[.int .i64 ((e + 1 : Nat) : Int), .int .i64 (lenF l i (e + 1)), fv0, fv1, fv2, fv3, fv4] w' fun r w'' => r = .returned (.tuple #[]) ∧ Inv (e + 1) w'') (h0 : Inv i w) :
    Calls Tryz.prog 140 #[.int .i64 W, .int .i64 (i : Nat), .slice A l.length c, .func (.func 141) #[] #[fv0, fv1, fv2, fv3, fv4]] w fun r w' => r = .returned (.tuple #[]) ∧ Inv g w' := by
  obtain ⟨g1, g2, g3, g4⟩ := hg
  have hl := hb.1
  have G3 := Lib.hid g3
  have G4 := Lib.hid g4
  have Hb := Lib.hid hb
  have Hst := Lib.hid hstep
  have Hre := Lib.hid hread
  have H0 := Lib.hid h0
  clear g3 g4 hb hstep hread h0
  go_enter Tryz.func140, Tryz.ntmps140
  go_wp2
  go_loopw [8, 9] (fun n j wr => ∃ e : Nat, i ≤ e ∧ e ≤ g ∧ j = .int .i64 ((e + 1 : Nat) : Int) ∧ n = .int .i64 (lenF l i e) ∧ Hid (Inv e wr)) (fun _ j _ => g + 1 - (intOf j).toNat)
  case atStart => exact ⟨i, Nat.le_refl _, g1, by go_num, by unfold lenF; go_num, H0⟩
  case round =>
    obtain ⟨e, he1, he2, rfl, rfl, HI⟩ := hrel
    have hp1 := posF_le Hb.out e (by omega)
    have hp2 := posF_mono l i e he1
    have hL : -1 ≤ lenF l i e ∧ lenF l i e ≤ 200000 := by unfold lenF; omega
    clear hp1 hp2
    by_cases hlt : e < l.length
    · obtain ⟨b, off, hA, hbl, u0⟩ := strAt (Hre.out _ _ HI.out) hlt
      have hst := lenF_succ (l := l) (i := i) hlt
      have hsz := Hb.out.2 l[e] (List.getElem_mem hlt)
      obtain ⟨s, hs0⟩ : ∃ s, l[e] = s := ⟨_, rfl⟩
      rw [hs0] at u0 hst hsz
      obtain ⟨L, hL0⟩ : ∃ L, lenF l i e = L := ⟨_, rfl⟩
      rw [hL0] at hL hst ⊢
      subst hA
      have d1 : decide (((e + 1 : Nat) : Int) ≤ (l.length : Int)) = true := decide_eq_true (by omega)
      have d1' : decide (e + 1 ≤ l.length) = true := decide_eq_true (by omega)
      have d2 : decide (((e + 1 : Nat) : Int) - 1 < (l.length : Int)) = true := decide_eq_true (by omega)
      by_cases heg : e < g
      · have hfit := G3.out (e + 1) (by omega) (by omega)
        rw [hst] at hfit
        have d3 : decide (L + (1 + (s.size : Int)) > W) = false := decide_eq_false (by omega)
        have hc := Hst.out e wr he1 heg HI.out
        rw [hst] at hc
        have Hc := Lib.hid hc
        have Hst2 := Lib.hid hst
        clear hs0 hL0 hst hc hfit
        go_wp2_with fail
        refine (Hc.out).mono ?_
        rintro r w2 ⟨rfl, hi2⟩
        have Hi2 := Lib.hid hi2
        clear hi2
        go_wp2
        go_roundw
        case rel => exact ⟨e + 1, by omega, by omega, by go_num, by rw [Hst2.out], Hi2⟩
        case measure => simp [intOf]; omega
      · obtain rfl : e = g := by omega
        have hbig : W < lenF l i (e + 1) := by
          rcases G4.out with h | h
          · omega
          · exact h
        rw [hst] at hbig
        have d3 : decide (L + (1 + (s.size : Int)) > W) = true := decide_eq_true (by omega)
        clear hs0 hL0 hst hbig
        go_wp2
        (try simp only [Exit.inBlock, Exit.then])
        refine bodyPost_ret (results_none rfl _ _ _) rfl ?_
        exact ⟨rfl, HI.out⟩
    · have hel : e = l.length := by omega
      have heg : e = g := by omega
      have d1 : decide (((e + 1 : Nat) : Int) ≤ (l.length : Int)) = false := decide_eq_false (by omega)
      have d1' : decide (e + 1 ≤ l.length) = false := decide_eq_false (by omega)
      have Hi := Lib.hid (heg ▸ HI.out)
      clear hel heg HI
      go_wp2
      go_end0
      exact ⟨rfl, Hi.out⟩
end Go.Proofs.YtjhdamjbljafhaaGreatDoor
