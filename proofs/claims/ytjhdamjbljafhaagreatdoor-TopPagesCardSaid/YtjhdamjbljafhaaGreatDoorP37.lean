/- symMerge where one element stands behind a sorted row. -/
import Derived.Test.YtjhdamjbljafhaaGreatDoorP36
namespace Go.Proofs.YtjhdamjbljafhaaGreatDoor
open Go.RowKit
section
variable {g : Nat} {lt : (RUnit × GUnit) → (RUnit × GUnit) → Bool} {S : (RUnit × GUnit) → Prop} {J : World → Prop} {fv : Value}
def TwoSt (g cap n : Nat) (A L D : List (RUnit × GUnit)) (y : RUnit × GUnit) (t : Nat) (w : World) : Prop := Rw g cap n w (A ++ L.take t ++ y :: (L.drop t ++ D))
set_option maxRecDepth 100000 in
set_option maxHeartbeats 3200000 in
theorem sym_two (C : CmpC g lt S J fv) (hw : Wk lt) (cap n a m b : Nat) (A L D : List (RUnit × GUnit)) (Y : RUnit × GUnit) (w : World) (hn : n ≤ 1048576) (ha : a = A.length) (hm : m = A.length + L.length) (hb : b = A.length + L.length + 1) (h1 : 1 < L.length) (hL : Srt lt L) (hS : ∀ y ∈ L, S y) (sY : S Y) (hJ : J w) (hrow : Rw g cap n w (A ++ L ++ Y :: D)) :
    Calls Tryz.prog 145 #[.slice (some ⟨g, 0, none⟩) n cap, .int .i64 (a : Nat), .int .i64 (m : Nat), .int .i64 (b : Nat), fv] w fun e w' => e = .returned (.tuple #[]) ∧ Kp g w w' ∧ ∃ M, Srt lt M ∧ SO lt (L ++ [Y]) M ∧ Rw g cap n w' (A ++ M ++ D) := by
  have d0 : ((m : Int) - (a : Int) == 1) = false := by simp; omega
  have d1 : ((b : Int) - (m : Int) == 1) = true := by simp; omega
  have hbn : b ≤ n := by have := hrow.len; simp at this; omega
  have ham : a < m := by omega
  have hmb : m < b := by omega
  obtain ⟨xs, hxs⟩ : ∃ xs, A ++ L ++ Y :: D = xs := ⟨_, rfl⟩
  have hxl : xs.length = n := by rw [← hxs]; exact hrow.len
  have hSI : SI lt xs a m := by
    have := SI.of (A := A) (R := Y :: D) hL
    rw [hxs] at this
    rw [ha, hm]
    exact this
  have hY0 : xs[m]? = some Y := by rw [← hxs, hm, ← List.length_append, List.getElem?_append_right (Nat.le_refl _), Nat.sub_self]; rfl
  have HSR := Lib.hid (show ∀ k, a ≤ k → k < m → ∃ y, xs[k]? = some y ∧ S y from fun k h1 h2 => by
    have := seg_get A L (Y :: D) (k - A.length) (by omega)
    rw [hxs, show A.length + (k - A.length) = k from by omega] at this
    exact ⟨_, this, hS _ (List.getElem_mem _)⟩)
  have Hmono := Lib.hid (mono_two hw hSI (by omega) Y)
  have Hfin := Lib.hid (show ∀ i, Bs (fun k => at1 (fun z => !lt Y z) xs[k]?) a m i i → Srt lt (L.take (i - a) ++ Y :: L.drop (i - a)) ∧ SO lt (L ++ [Y]) (L.take (i - a) ++ Y :: L.drop (i - a)) from fun i hi => by
    have lo := at1_mem (A := A) (L := L) (R := Y :: D) (lo := a) (hi := i) (b := true) (f := fun z => !lt Y z) (by omega) (by have := hi.h3; omega) (fun k h1 h2 => by rw [hxs]; exact hi.low k h1 h2)
    have hi' := at1_mem (A := A) (L := L) (R := Y :: D) (lo := i) (hi := m) (b := false) (f := fun z => !lt Y z) (by have := hi.h1; omega) (by omega) (fun k h1 h2 => by rw [hxs]; exact hi.high k h1 h2)
    rw [← ha, Nat.sub_self, List.drop_zero] at lo
    rw [← ha, List.take_of_length_le (by omega)] at hi'
    have := ins_done hw (B1 := L.take (i - a)) (B2 := L.drop (i - a)) (x := Y) (by rw [List.take_append_drop]; exact hL) (fun y hy => by simpa using lo y hy) (fun y hy => by simpa using hi' y hy)
    rwa [List.take_append_drop] at this)
  have hrow' : Rw g cap n w xs := by rw [← hxs]; exact hrow
  have HA := Lib.hid ha
  have HR := Lib.hid (show L.length = m - a by omega)
  have Hxs := Lib.hid hxs
  replace C := Lib.hid C
  have HJ := Lib.hid hJ
  clear hw hL hS hJ hrow ha hm hb hSI hxs hxl h1
  go_enter Tryz.func145, Tryz.ntmps145
  go_wp2
  go_loopw [14, 15] (fun vi vj wr => ∃ i j : Nat, a ≤ i ∧ i ≤ j ∧ j ≤ m ∧ vi = .int .i64 (i : Nat) ∧ vj = .int .i64 (j : Nat) ∧ Ext w wr ∧ Hid (Bs (fun k => at1 (fun z => !lt Y z) xs[k]?) a m i j)) (fun vi vj _ => (intOf vj).toNat - (intOf vi).toNat)
  case atStart => exact ⟨a, m, Nat.le_refl _, by omega, Nat.le_refl _, rfl, rfl, Ext.refl _, Lib.hid (Bs.start (by omega))⟩
  case round =>
    obtain ⟨i, j, hmi, hij, hjb, rfl, rfl, hxr, hbs⟩ := hrel
    by_cases hlt : i < j
    · have d2 : decide ((i : Int) < (j : Int)) = true := decide_eq_true (by omega)
      obtain ⟨h, hh⟩ : ∃ h, h = (i + j) / 2 := ⟨_, rfl⟩
      have eh : ((i : Int) + (j : Int)) / 2 = ((h : Nat) : Int) := by omega
      have hh1 : i ≤ h := by omega
      have hh2 : h < j := by omega
      obtain ⟨X, hX, sX⟩ := HSR.out h (by omega) (by omega)
      have hY := hY0
      have hrw := hrow'.ext hxr
      have HP : ∀ b, lt Y X = b → at1 (fun z => !lt Y z) xs[h]? = !b := fun b hb => by rw [hX]; simp only [at1, hb]
      clear hh
      obtain ⟨bb, hbb0⟩ : ∃ bb, lt Y X = bb := ⟨_, rfl⟩
      have Hp := Lib.hid (HP _ hbb0)
      have hbb := Lib.hid hbb0
      have HJr := Lib.hid (C.out.keep _ _ HJ.out (Kp.of_ext hxr))
      clear hbb0 HP
      cases bb
      case true =>
        go_wp2_with fail
        refine wp_drawn (by kernel_rfl) (fun i => match i with | 0 => Ty.is (fv) | 1 => Ty.is (.slice (some ⟨g, 0, none⟩) n cap) | 2 => Ty.is (.int .i64 (m : Nat)) | 3 => TCells (pairEl.E Y) | 4 => Ty.is (.agg (pairEl.E Y).toArray) | 5 => Ty.is (.slice (some ⟨g, 0, none⟩) n cap) | 6 => Ty.is (.int .i64 ((h : Nat) : Int)) | 7 => TCells (pairEl.E X) | 8 => Ty.is (.agg (pairEl.E X).toArray) | 9 => TLt true | 10 => Ty.is (.bool true) | 11 => Ty.is (.bool false) | _ => Ty.any) (by kernel_rfl) rfl ?_
        intro v
        refine ⟨?_, ?_, ?_, ?_, ?_, ?_, ?_, ?_, ?_, ?_, ?_, ?_, ?_⟩
        · intro wq hq hd
          refine ob_plain rfl ?_
          exact yld_move (.tmp 4) rfl rfl rfl
        · intro wq hq hd
          refine ob_plain rfl ?_
          exact yld_move (.tmp 0) rfl rfl rfl
        · intro wq hq hd
          refine ob_plain rfl ?_
          exact yld_move (.tmp 2) rfl rfl rfl
        · intro wq hq hd
          obtain ⟨h0, h1, -⟩ := hd
          change v 1 = _ at h0
          change v 2 = _ at h1
          refine ob_plain rfl ?_
          exact yld_indexRw (.tmp 93) (.tmp 94) rfl h0 (m) h1 (hrw.ext hq) hY
        · intro wq hq hd
          obtain ⟨h0, -⟩ := hd
          change (TCells (pairEl.E Y)).p (v 3) wq at h0
          refine ob_plain rfl ?_
          exact yld_loadRw (.tmp 95) rfl h0
        · intro wq hq hd
          refine ob_plain rfl ?_
          exact yld_move (.tmp 0) rfl rfl rfl
        · intro wq hq hd
          refine ob_plain rfl ?_
          exact yld_move (.tmp 16) rfl rfl rfl
        · intro wq hq hd
          obtain ⟨h0, h1, -⟩ := hd
          change v 5 = _ at h0
          change v 6 = _ at h1
          refine ob_plain rfl ?_
          exact yld_indexRw (.tmp 97) (.tmp 98) rfl h0 (h) h1 (hrw.ext hq) hX
        · intro wq hq hd
          obtain ⟨h0, -⟩ := hd
          change (TCells (pairEl.E X)).p (v 7) wq at h0
          refine ob_plain rfl ?_
          exact yld_loadRw (.tmp 99) rfl h0
        · intro wq hq hd
          obtain ⟨h0, h1, h2, -⟩ := hd
          change v 0 = _ at h0
          change v 4 = _ at h1
          change v 8 = _ at h2
          refine ob_plain rfl ?_
          exact hbb.out ▸ yld_cmp C.out (.tmp 92) (.tmp 96) (.tmp 100) _ rfl h0 h1 h2 sY sX (C.out.keep _ _ HJr.out (Kp.of_ext hq))
        · intro wq hq hd
          obtain ⟨h0, -⟩ := hd
          change (TLt true).p (v 9) wq at h0
          refine ob_plain rfl ?_
          exact yld_neg _ _ (.tmp 101) _ rfl _ h0 rfl
        · intro wq hq hd
          obtain ⟨h0, -⟩ := hd
          change v 10 = _ at h0
          refine ob_plain rfl ?_
          exact yld_not (.tmp 102) 4 rfl _ h0 rfl
        · intro wq hq hT
          have k11 := hT 11 (by decide)
          change v 11 = _ at k11
          clear hT
          simp only [List.drop_succ_cons, List.drop_zero, putE, setsE, List.set_cons_succ, List.set_cons_zero, Nat.reduceAdd]
          rw [k11]
          have hbs2 := Lib.hid (hbs.out.down Hmono.out (by omega) (by omega) Hp.out)
          have hxr2 := hxr.trans hq
          clear hY hX hrw hbs hxr Hp
          go_wp2
          go_roundw
          case rel => exact ⟨i, h, by omega, by omega, by omega, by go_num, by go_num, hxr2, hbs2⟩
          case measure => simp [intOf]; omega
      case false =>
        go_wp2_with fail
        refine wp_drawn (by kernel_rfl) (fun i => match i with | 0 => Ty.is (fv) | 1 => Ty.is (.slice (some ⟨g, 0, none⟩) n cap) | 2 => Ty.is (.int .i64 (m : Nat)) | 3 => TCells (pairEl.E Y) | 4 => Ty.is (.agg (pairEl.E Y).toArray) | 5 => Ty.is (.slice (some ⟨g, 0, none⟩) n cap) | 6 => Ty.is (.int .i64 ((h : Nat) : Int)) | 7 => TCells (pairEl.E X) | 8 => Ty.is (.agg (pairEl.E X).toArray) | 9 => TLt false | 10 => Ty.is (.bool false) | 11 => Ty.is (.bool true) | _ => Ty.any) (by kernel_rfl) rfl ?_
        intro v
        refine ⟨?_, ?_, ?_, ?_, ?_, ?_, ?_, ?_, ?_, ?_, ?_, ?_, ?_⟩
        · intro wq hq hd
          refine ob_plain rfl ?_
          exact yld_move (.tmp 4) rfl rfl rfl
        · intro wq hq hd
          refine ob_plain rfl ?_
          exact yld_move (.tmp 0) rfl rfl rfl
        · intro wq hq hd
          refine ob_plain rfl ?_
          exact yld_move (.tmp 2) rfl rfl rfl
        · intro wq hq hd
          obtain ⟨h0, h1, -⟩ := hd
          change v 1 = _ at h0
          change v 2 = _ at h1
          refine ob_plain rfl ?_
          exact yld_indexRw (.tmp 93) (.tmp 94) rfl h0 (m) h1 (hrw.ext hq) hY
        · intro wq hq hd
          obtain ⟨h0, -⟩ := hd
          change (TCells (pairEl.E Y)).p (v 3) wq at h0
          refine ob_plain rfl ?_
          exact yld_loadRw (.tmp 95) rfl h0
        · intro wq hq hd
          refine ob_plain rfl ?_
          exact yld_move (.tmp 0) rfl rfl rfl
        · intro wq hq hd
          refine ob_plain rfl ?_
          exact yld_move (.tmp 16) rfl rfl rfl
        · intro wq hq hd
          obtain ⟨h0, h1, -⟩ := hd
          change v 5 = _ at h0
          change v 6 = _ at h1
          refine ob_plain rfl ?_
          exact yld_indexRw (.tmp 97) (.tmp 98) rfl h0 (h) h1 (hrw.ext hq) hX
        · intro wq hq hd
          obtain ⟨h0, -⟩ := hd
          change (TCells (pairEl.E X)).p (v 7) wq at h0
          refine ob_plain rfl ?_
          exact yld_loadRw (.tmp 99) rfl h0
        · intro wq hq hd
          obtain ⟨h0, h1, h2, -⟩ := hd
          change v 0 = _ at h0
          change v 4 = _ at h1
          change v 8 = _ at h2
          refine ob_plain rfl ?_
          exact hbb.out ▸ yld_cmp C.out (.tmp 92) (.tmp 96) (.tmp 100) _ rfl h0 h1 h2 sY sX (C.out.keep _ _ HJr.out (Kp.of_ext hq))
        · intro wq hq hd
          obtain ⟨h0, -⟩ := hd
          change (TLt false).p (v 9) wq at h0
          refine ob_plain rfl ?_
          exact yld_neg _ _ (.tmp 101) _ rfl _ h0 rfl
        · intro wq hq hd
          obtain ⟨h0, -⟩ := hd
          change v 10 = _ at h0
          refine ob_plain rfl ?_
          exact yld_not (.tmp 102) 4 rfl _ h0 rfl
        · intro wq hq hT
          have k11 := hT 11 (by decide)
          change v 11 = _ at k11
          clear hT
          simp only [List.drop_succ_cons, List.drop_zero, putE, setsE, List.set_cons_succ, List.set_cons_zero, Nat.reduceAdd]
          rw [k11]
          have hbs2 := Lib.hid (hbs.out.up Hmono.out (by omega) (by omega) Hp.out)
          have hxr2 := hxr.trans hq
          clear hY hX hrw hbs hxr Hp
          go_wp2
          go_roundw
          case rel => exact ⟨h + 1, j, by omega, by omega, by omega, by go_num, by go_num, hxr2, hbs2⟩
          case measure => simp [intOf]; omega
    · obtain rfl : i = j := by omega
      have d2 : decide ((i : Int) < (i : Int)) = false := decide_eq_false (by omega)
      obtain ⟨q1, q2⟩ := Hfin.out i hbs.out
      have Q := Lib.hid (And.intro q1 q2)
      have hs0 : TwoSt g cap n A L D Y (m - a) wr := by
        unfold TwoSt
        rw [List.take_of_length_le (by have := HR.out; omega), List.drop_of_length_le (by have := HR.out; omega), List.nil_append, Hxs.out]
        exact hrow'.ext hxr
      have hkp0 := Kp.of_ext (g := g) hxr
      clear hbs q1 q2 hxr hrow' Hfin Hmono HSR HJ hY0
      go_wp2
      go_loopw [17] (fun vk wr => ∃ t : Nat, i - a ≤ t ∧ t ≤ m - a ∧ vk = .int .i64 ((a + t : Nat) : Int) ∧ Kp g w wr ∧ TwoSt g cap n A L D Y t wr) (fun vk _ => (intOf vk).toNat)
      case atStart => exact ⟨m - a, by omega, by omega, by go_num, hkp0, hs0⟩
      case round =>
        clear hs0 hkp0
        obtain ⟨t, hti, htm, rfl, hkp, hst⟩ := hrel
        by_cases hlt2 : i < a + t
        · have d3 : decide ((i : Int) < ((a + t : Nat) : Int)) = true := decide_eq_true (by omega)
          have htR : t - 1 < L.length := by have := HR.out; omega
          obtain ⟨k, hk⟩ : ∃ k, a + t = k := ⟨_, rfl⟩
          have hka : k - 1 = (A ++ L.take (t - 1)).length := by have := HA.out; simp; omega
          obtain ⟨xk, hxk⟩ : ∃ xk, A ++ L.take t ++ Y :: (L.drop t ++ D) = xk := ⟨_, rfl⟩
          have et : t = (t - 1) + 1 := by omega
          have etk : L.take t = L.take (t - 1) ++ [L[t - 1]] := (congrArg (L.take ·) et).trans (List.take_succ_eq_append_getElem htR)
          have exk : xk = (A ++ L.take (t - 1)) ++ L[t - 1] :: Y :: (L.drop t ++ D) := by rw [← hxk, etk]; simp only [List.append_assoc, List.cons_append, List.nil_append]
          have hrw : Rw g cap n wr xk := by rw [← hxk]; exact hst
          obtain ⟨Z, hZe⟩ : ∃ Z, L[t - 1] = Z := ⟨_, rfl⟩
          rw [hZe] at exk
          have ek : k = (A ++ L.take (t - 1)).length + 1 := by omega
          have hZ : xk[k - 1]? = some Z := by rw [exk, hka, List.getElem?_append_right (Nat.le_refl _), Nat.sub_self]; rfl
          have hY : xk[k]? = some Y := by rw [exk, ek, List.getElem?_append_right (by omega), Nat.add_sub_cancel_left]; rfl
          have Hset := Lib.hid (show (xk.set k Z).set (k - 1) Y = A ++ L.take (t - 1) ++ Y :: (L.drop (t - 1) ++ D) by
            rw [List.set_comm _ _ (by omega), exk, hka, ek, swap_adj, List.drop_eq_getElem_cons htR, hZe, ← et]
            simp only [List.append_assoc, List.cons_append])
          have Hnext := Lib.hid (show ∀ W, Rw g cap n W (A ++ L.take (t - 1) ++ Y :: (L.drop (t - 1) ++ D)) → TwoSt g cap n A L D Y (t - 1) W from fun W hW => hW)
          have Hk := Lib.hid hk
          have hkn : k < n := by omega
          have hk1 : 1 ≤ k := by omega
          have hik : i < k := by omega
          rw [hk] at d3 ⊢
          clear hst hxk exk hka hZe hk htR et etk ek
          go_wp2_with fail
          refine wp_drawn_store 16 15 [0, 1, 5, 6, 7, 8, 9, 10, 11, 12, 13, 14] (fun i => match i with | 0 => .slice (some ⟨g, 0, none⟩) n cap | 1 => .int .i64 ((k : Nat) : Int) | 2 => .slice (some ⟨g, 0, none⟩) n cap | 3 => .int .i64 ((k : Nat) : Int) | 4 => .int .i64 ((k - 1 : Nat) : Int) | 5 => .slice (some ⟨g, 0, none⟩) n cap | 6 => .int .i64 ((k : Nat) : Int) | 7 => .int .i64 ((k - 1 : Nat) : Int) | 8 => .pointer (some ⟨g, (k - 1) * 8, none⟩) | 9 => .agg (pairEl.E Z).toArray | 10 => .slice (some ⟨g, 0, none⟩) n cap | 11 => .int .i64 ((k : Nat) : Int) | 12 => .pointer (some ⟨g, (k) * 8, none⟩) | 13 => .agg (pairEl.E Y).toArray | 14 => .pointer (some ⟨g, (k) * 8, none⟩) | 15 => undef | _ => undef) (by kernel_rfl) (by kernel_rfl) (by kernel_rfl) (by kernel_rfl) (by decide) (by decide) rfl ?_
          intro W hW
          obtain ⟨W1, hk1, ho1, hs1⟩ := (hrw.ext hW).store (k) (by omega) Z
          refine ⟨W1, ?_⟩
          refine ⟨rfl, obl_any (by decide) (fun _ => runs_move (.tmp 0) rfl rfl), ?_⟩
          refine ⟨rfl, obl_any (by decide) (fun _ => runs_move (.tmp 17) rfl rfl), ?_⟩
          refine ⟨rfl, obl_any (by decide) (fun _ => runs_move (.tmp 0) rfl rfl), ?_⟩
          refine ⟨rfl, obl_any (by decide) (fun _ => runs_move (.tmp 17) rfl rfl), ?_⟩
          refine ⟨rfl, obl_any (by decide) (fun _ => runs_bin .sub _ _ (.tmp 116) _ rfl _ _ rfl rfl (bin_sub _ _ _ _ (by omega) (by omega) (by omega))), ?_⟩
          refine ⟨rfl, obl_any (by decide) (fun _ => runs_move (.tmp 0) rfl rfl), ?_⟩
          refine ⟨rfl, obl_any (by decide) (fun _ => runs_move (.tmp 17) rfl rfl), ?_⟩
          refine ⟨rfl, obl_any (by decide) (fun _ => runs_bin .sub _ _ (.tmp 119) _ rfl _ _ rfl rfl (bin_sub _ _ _ _ (by omega) (by omega) (by omega))), ?_⟩
          refine ⟨rfl, obl_any (by decide) (fun _ => (runs_index pairEl (.tmp 118) (.tmp 120) rfl n rfl (k - 1) rfl (by omega))), ?_⟩
          refine ⟨rfl, obl_early (by decide) (by decide) (runs_load pairEl rfl (.tmp 121) rfl (k - 1) rfl ((hrw.ext hW).o) _ (hZ)), ?_⟩
          refine ⟨rfl, obl_any (by decide) (fun _ => runs_move (.tmp 0) rfl rfl), ?_⟩
          refine ⟨rfl, obl_any (by decide) (fun _ => runs_move (.tmp 17) rfl rfl), ?_⟩
          refine ⟨rfl, obl_any (by decide) (fun _ => (runs_index pairEl (.tmp 123) (.tmp 124) rfl n rfl (k) rfl (by omega))), ?_⟩
          refine ⟨rfl, obl_early (by decide) (by decide) (runs_load pairEl rfl (.tmp 125) rfl (k) rfl ((hrw.ext hW).o) _ (hY)), ?_⟩
          refine ⟨rfl, obl_any (by decide) (fun _ => (runs_index pairEl (.tmp 113) (.tmp 114) rfl n rfl (k) rfl (by omega))), ?_⟩
          refine ⟨rfl, obl_store rfl (hs1 _ _ (.tmp 127) (.tmp 122) rfl rfl rfl), ?_⟩
          refine OblsSE.nil ?_
          simp only [List.drop_succ_cons, List.drop_zero, putE, setsE, List.set_cons_succ, List.set_cons_zero, Nat.reduceAdd]
          refine wpList_runs rfl (runs_index pairEl (.tmp 115) (.tmp 117) rfl n rfl (k - 1) rfl (by omega)) ?_
          obtain ⟨W2, hk2, ho2, hs2⟩ := ho1.store (k - 1) (by omega) Y
          refine wpList_runs rfl (hs2 _ _ (.tmp 128) (.tmp 126) rfl rfl rfl) ?_
          have hrw2 : Rw g cap n W2 ((xk.set k Z).set (k - 1) Y) := ho2
          rw [Hset.out] at hrw2
          have hkp2 : Kp g w W2 := hkp.trans ((Kp.of_ext hW).trans (hk1.trans hk2))
          have hst2 := Hnext.out W2 hrw2
          clear hs1 hs2 hk1 hk2 ho1 ho2 hY hZ hrw hkp Hset Hnext hrw2
          go_wp2
          go_roundw
          case rel => have hk := Hk.out; exact ⟨t - 1, by omega, by omega, by go_num, hkp2, hst2⟩
          case measure => have hk := Hk.out; simp [intOf]; omega
        · have d3 : decide ((i : Int) < ((a + t : Nat) : Int)) = false := decide_eq_false (by omega)
          have hti : t = i - a := by omega
          rw [hti] at hst
          have hfin2 : Rw g cap n wr (A ++ (L.take (i - a) ++ Y :: L.drop (i - a)) ++ D) := by
            have hst' : Rw g cap n wr _ := hst
            simpa only [List.append_assoc, List.cons_append] using hst'
          clear hst hti
          go_wp2
          (try simp only [Exit.inBlock, Exit.then])
          refine bodyPost_ret (results_none rfl _ _ _) rfl ?_
          exact ⟨rfl, hkp, _, Q.out.1, Q.out.2, hfin2⟩
end
end Go.Proofs.YtjhdamjbljafhaaGreatDoor
