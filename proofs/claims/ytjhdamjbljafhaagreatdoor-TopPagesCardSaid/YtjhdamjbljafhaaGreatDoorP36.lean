/- symMerge where one element stands ahead of a sorted row. -/
import Derived.Test.YtjhdamjbljafhaaGreatDoorP34
import Derived.Test.YtjhdamjbljafhaaGreatDoorP35
namespace Go.Proofs.YtjhdamjbljafhaaGreatDoor
open Go.RowKit
section
variable {g : Nat} {lt : (RUnit × GUnit) → (RUnit × GUnit) → Bool} {S : (RUnit × GUnit) → Prop} {J : World → Prop} {fv : Value}
def OneSt (g cap n : Nat) (A R D : List (RUnit × GUnit)) (x : RUnit × GUnit) (t : Nat) (w : World) : Prop := Rw g cap n w (A ++ R.take t ++ x :: (R.drop t ++ D))
set_option maxRecDepth 100000 in
set_option maxHeartbeats 3200000 in
theorem sym_one (C : CmpC g lt S J fv) (hw : Wk lt) (cap n a m b : Nat) (A R D : List (RUnit × GUnit)) (X : RUnit × GUnit) (w : World) (hn : n ≤ 1048576) (ha : a = A.length) (hm : m = A.length + 1) (hb : b = A.length + 1 + R.length) (hR : Srt lt R) (hS : ∀ y ∈ R, S y) (sX : S X) (hJ : J w) (hrow : Rw g cap n w (A ++ X :: (R ++ D))) :
    Calls Tryz.prog 145 #[.slice (some ⟨g, 0, none⟩) n cap, .int .i64 (a : Nat), .int .i64 (m : Nat), .int .i64 (b : Nat), fv] w fun e w' => e = .returned (.tuple #[]) ∧ Kp g w w' ∧ ∃ M, Srt lt M ∧ SO lt ([X] ++ R) M ∧ Rw g cap n w' (A ++ M ++ D) := by
  have d1 : ((m : Int) - (a : Int) == 1) = true := by simp; omega
  have hbn : b ≤ n := by have := hrow.len; simp at this; omega
  have ham : a + 1 = m := by omega
  have hmb : m ≤ b := by omega
  obtain ⟨xs, hxs⟩ : ∃ xs, A ++ X :: (R ++ D) = xs := ⟨_, rfl⟩
  have hxl : xs.length = n := by rw [← hxs]; exact hrow.len
  have e1 : xs = (A ++ [X]) ++ R ++ D := by rw [← hxs]; simp
  have hSI : SI lt xs m b := by
    have := SI.of (A := A ++ [X]) (R := D) hR
    rw [← e1] at this
    simp only [List.length_append, List.length_cons, List.length_nil, Nat.zero_add] at this
    rw [hm, hb]
    exact this
  have hX0 : xs[a]? = some X := by rw [← hxs, ha, List.getElem?_append_right (Nat.le_refl _), Nat.sub_self]; rfl
  have HSR := Lib.hid (show ∀ k, m ≤ k → k < b → ∃ y, xs[k]? = some y ∧ S y from fun k h1 h2 => by
    have := seg_get (A ++ [X]) R D (k - (A.length + 1)) (by omega)
    rw [← e1, show (A ++ [X]).length + (k - (A.length + 1)) = k from by simp; omega] at this
    exact ⟨_, this, hS _ (List.getElem_mem _)⟩)
  have Hmono := Lib.hid (mono_one hw hSI (by omega) X)
  have Hfin := Lib.hid (show ∀ i, Bs (fun k => at1 (fun y => lt y X) xs[k]?) m b i i → Srt lt (R.take (i - m) ++ X :: R.drop (i - m)) ∧ SO lt ([X] ++ R) (R.take (i - m) ++ X :: R.drop (i - m)) from fun i hi => by
    have lo := at1_mem (A := A ++ [X]) (L := R) (R := D) (lo := m) (hi := i) (b := true) (f := fun y => lt y X) (by simp; omega) (by have := hi.h3; simp; omega) (fun k h1 h2 => by rw [← e1]; exact hi.low k h1 h2)
    have hi' := at1_mem (A := A ++ [X]) (L := R) (R := D) (lo := i) (hi := b) (b := false) (f := fun y => lt y X) (by have := hi.h1; simp; omega) (by simp; omega) (fun k h1 h2 => by rw [← e1]; exact hi.high k h1 h2)
    have e2 : (A ++ [X]).length = m := by simp; omega
    rw [e2, Nat.sub_self, List.drop_zero] at lo
    rw [e2, List.take_of_length_le (by omega)] at hi'
    have := ins_front hw (R1 := R.take (i - m)) (R2 := R.drop (i - m)) (x := X) (by rw [List.take_append_drop]; exact hR) lo hi'
    rwa [List.take_append_drop] at this)
  have hrow' : Rw g cap n w xs := by rw [← hxs]; exact hrow
  have HA := Lib.hid ha
  have HR := Lib.hid (show R.length = b - m by omega)
  have Hxs := Lib.hid hxs
  replace C := Lib.hid C
  have HJ := Lib.hid hJ
  clear hw hR hS hJ hrow ha hm hb hSI e1 hxs hxl
  go_enter Tryz.func145, Tryz.ntmps145
  go_wp2
  go_loopw [10, 11] (fun vi vj wr => ∃ i j : Nat, m ≤ i ∧ i ≤ j ∧ j ≤ b ∧ vi = .int .i64 (i : Nat) ∧ vj = .int .i64 (j : Nat) ∧ Ext w wr ∧ Hid (Bs (fun k => at1 (fun y => lt y X) xs[k]?) m b i j)) (fun vi vj _ => (intOf vj).toNat - (intOf vi).toNat)
  case atStart => exact ⟨m, b, Nat.le_refl _, hmb, Nat.le_refl _, rfl, rfl, Ext.refl _, Lib.hid (Bs.start hmb)⟩
  case round =>
    obtain ⟨i, j, hmi, hij, hjb, rfl, rfl, hxr, hbs⟩ := hrel
    by_cases hlt : i < j
    · have d2 : decide ((i : Int) < (j : Int)) = true := decide_eq_true (by omega)
      obtain ⟨h, hh⟩ : ∃ h, h = (i + j) / 2 := ⟨_, rfl⟩
      have eh : ((i : Int) + (j : Int)) / 2 = ((h : Nat) : Int) := by omega
      have hh1 : i ≤ h := by omega
      have hh2 : h < j := by omega
      obtain ⟨Y, hY, sY⟩ := HSR.out h (by omega) (by omega)
      have hX := hX0
      have hrw := hrow'.ext hxr
      have HP : ∀ b, lt Y X = b → at1 (fun y => lt y X) xs[h]? = b := fun b hb => by rw [hY]; exact hb
      clear hh
      obtain ⟨bb, hbb0⟩ : ∃ bb, lt Y X = bb := ⟨_, rfl⟩
      have Hp := Lib.hid (HP _ hbb0)
      have hbb := Lib.hid hbb0
      have HJr := Lib.hid (C.out.keep _ _ HJ.out (Kp.of_ext hxr))
      clear hbb0 HP
      cases bb
      case true =>
        go_wp2_with fail
        refine wp_drawn (by kernel_rfl) (fun i => match i with | 0 => Ty.is (fv) | 1 => Ty.is (.slice (some ⟨g, 0, none⟩) n cap) | 2 => Ty.is (.int .i64 ((h : Nat) : Int)) | 3 => TCells (pairEl.E Y) | 4 => Ty.is (.agg (pairEl.E Y).toArray) | 5 => Ty.is (.slice (some ⟨g, 0, none⟩) n cap) | 6 => Ty.is (.int .i64 (a : Nat)) | 7 => TCells (pairEl.E X) | 8 => Ty.is (.agg (pairEl.E X).toArray) | 9 => TLt true | 10 => Ty.is (.bool true) | _ => Ty.any) (by kernel_rfl) rfl ?_
        intro v
        refine ⟨?_, ?_, ?_, ?_, ?_, ?_, ?_, ?_, ?_, ?_, ?_, ?_⟩
        · intro wq hq hd
          refine ob_plain rfl ?_
          exact yld_move (.tmp 4) rfl rfl rfl
        · intro wq hq hd
          refine ob_plain rfl ?_
          exact yld_move (.tmp 0) rfl rfl rfl
        · intro wq hq hd
          refine ob_plain rfl ?_
          exact yld_move (.tmp 12) rfl rfl rfl
        · intro wq hq hd
          obtain ⟨h0, h1, -⟩ := hd
          change v 1 = _ at h0
          change v 2 = _ at h1
          refine ob_plain rfl ?_
          exact yld_indexRw (.tmp 41) (.tmp 42) rfl h0 (h) h1 (hrw.ext hq) hY
        · intro wq hq hd
          obtain ⟨h0, -⟩ := hd
          change (TCells (pairEl.E Y)).p (v 3) wq at h0
          refine ob_plain rfl ?_
          exact yld_loadRw (.tmp 43) rfl h0
        · intro wq hq hd
          refine ob_plain rfl ?_
          exact yld_move (.tmp 0) rfl rfl rfl
        · intro wq hq hd
          refine ob_plain rfl ?_
          exact yld_move (.tmp 1) rfl rfl rfl
        · intro wq hq hd
          obtain ⟨h0, h1, -⟩ := hd
          change v 5 = _ at h0
          change v 6 = _ at h1
          refine ob_plain rfl ?_
          exact yld_indexRw (.tmp 45) (.tmp 46) rfl h0 (a) h1 (hrw.ext hq) hX
        · intro wq hq hd
          obtain ⟨h0, -⟩ := hd
          change (TCells (pairEl.E X)).p (v 7) wq at h0
          refine ob_plain rfl ?_
          exact yld_loadRw (.tmp 47) rfl h0
        · intro wq hq hd
          obtain ⟨h0, h1, h2, -⟩ := hd
          change v 0 = _ at h0
          change v 4 = _ at h1
          change v 8 = _ at h2
          refine ob_plain rfl ?_
          exact hbb.out ▸ yld_cmp C.out (.tmp 40) (.tmp 44) (.tmp 48) _ rfl h0 h1 h2 sY sX (C.out.keep _ _ HJr.out (Kp.of_ext hq))
        · intro wq hq hd
          obtain ⟨h0, -⟩ := hd
          change (TLt true).p (v 9) wq at h0
          refine ob_plain rfl ?_
          exact yld_neg _ _ (.tmp 49) _ rfl _ h0 rfl
        · intro wq hq hT
          have k10 := hT 10 (by decide)
          change v 10 = _ at k10
          clear hT
          simp only [List.drop_succ_cons, List.drop_zero, putE, setsE, List.set_cons_succ, List.set_cons_zero, Nat.reduceAdd]
          rw [k10]
          have hbs2 := Lib.hid (hbs.out.up Hmono.out (by omega) (by omega) Hp.out)
          have hxr2 := hxr.trans hq
          clear hY hX hrw hbs hxr Hp
          go_wp2
          go_roundw
          case rel => exact ⟨h + 1, j, by omega, by omega, by omega, by go_num, by go_num, hxr2, hbs2⟩
          case measure => simp [intOf]; omega
      case false =>
        go_wp2_with fail
        refine wp_drawn (by kernel_rfl) (fun i => match i with | 0 => Ty.is (fv) | 1 => Ty.is (.slice (some ⟨g, 0, none⟩) n cap) | 2 => Ty.is (.int .i64 ((h : Nat) : Int)) | 3 => TCells (pairEl.E Y) | 4 => Ty.is (.agg (pairEl.E Y).toArray) | 5 => Ty.is (.slice (some ⟨g, 0, none⟩) n cap) | 6 => Ty.is (.int .i64 (a : Nat)) | 7 => TCells (pairEl.E X) | 8 => Ty.is (.agg (pairEl.E X).toArray) | 9 => TLt false | 10 => Ty.is (.bool false) | _ => Ty.any) (by kernel_rfl) rfl ?_
        intro v
        refine ⟨?_, ?_, ?_, ?_, ?_, ?_, ?_, ?_, ?_, ?_, ?_, ?_⟩
        · intro wq hq hd
          refine ob_plain rfl ?_
          exact yld_move (.tmp 4) rfl rfl rfl
        · intro wq hq hd
          refine ob_plain rfl ?_
          exact yld_move (.tmp 0) rfl rfl rfl
        · intro wq hq hd
          refine ob_plain rfl ?_
          exact yld_move (.tmp 12) rfl rfl rfl
        · intro wq hq hd
          obtain ⟨h0, h1, -⟩ := hd
          change v 1 = _ at h0
          change v 2 = _ at h1
          refine ob_plain rfl ?_
          exact yld_indexRw (.tmp 41) (.tmp 42) rfl h0 (h) h1 (hrw.ext hq) hY
        · intro wq hq hd
          obtain ⟨h0, -⟩ := hd
          change (TCells (pairEl.E Y)).p (v 3) wq at h0
          refine ob_plain rfl ?_
          exact yld_loadRw (.tmp 43) rfl h0
        · intro wq hq hd
          refine ob_plain rfl ?_
          exact yld_move (.tmp 0) rfl rfl rfl
        · intro wq hq hd
          refine ob_plain rfl ?_
          exact yld_move (.tmp 1) rfl rfl rfl
        · intro wq hq hd
          obtain ⟨h0, h1, -⟩ := hd
          change v 5 = _ at h0
          change v 6 = _ at h1
          refine ob_plain rfl ?_
          exact yld_indexRw (.tmp 45) (.tmp 46) rfl h0 (a) h1 (hrw.ext hq) hX
        · intro wq hq hd
          obtain ⟨h0, -⟩ := hd
          change (TCells (pairEl.E X)).p (v 7) wq at h0
          refine ob_plain rfl ?_
          exact yld_loadRw (.tmp 47) rfl h0
        · intro wq hq hd
          obtain ⟨h0, h1, h2, -⟩ := hd
          change v 0 = _ at h0
          change v 4 = _ at h1
          change v 8 = _ at h2
          refine ob_plain rfl ?_
          exact hbb.out ▸ yld_cmp C.out (.tmp 40) (.tmp 44) (.tmp 48) _ rfl h0 h1 h2 sY sX (C.out.keep _ _ HJr.out (Kp.of_ext hq))
        · intro wq hq hd
          obtain ⟨h0, -⟩ := hd
          change (TLt false).p (v 9) wq at h0
          refine ob_plain rfl ?_
          exact yld_neg _ _ (.tmp 49) _ rfl _ h0 rfl
        · intro wq hq hT
          have k10 := hT 10 (by decide)
          change v 10 = _ at k10
          clear hT
          simp only [List.drop_succ_cons, List.drop_zero, putE, setsE, List.set_cons_succ, List.set_cons_zero, Nat.reduceAdd]
          rw [k10]
          have hbs2 := Lib.hid (hbs.out.down Hmono.out (by omega) (by omega) Hp.out)
          have hxr2 := hxr.trans hq
          clear hY hX hrw hbs hxr Hp
          go_wp2
          go_roundw
          case rel => exact ⟨i, h, by omega, by omega, by omega, by go_num, by go_num, hxr2, hbs2⟩
          case measure => simp [intOf]; omega
    · obtain rfl : i = j := by omega
      have d2 : decide ((i : Int) < (i : Int)) = false := decide_eq_false (by omega)
      obtain ⟨q1, q2⟩ := Hfin.out i hbs.out
      have Q := Lib.hid (And.intro q1 q2)
      have hs0 : OneSt g cap n A R D X 0 wr := by
        unfold OneSt
        rw [List.take_zero, List.drop_zero, List.append_nil, Hxs.out]
        exact hrow'.ext hxr
      have hkp0 := Kp.of_ext (g := g) hxr
      clear hbs q1 q2 hxr hrow' Hfin Hmono HSR HJ hX0
      go_wp2
      go_loopw [13] (fun vk wr => ∃ t : Nat, t ≤ i - m ∧ a + t < n ∧ a + t ≤ i - 1 ∧ vk = .int .i64 ((a + t : Nat) : Int) ∧ Kp g w wr ∧ OneSt g cap n A R D X t wr) (fun vk _ => n - (intOf vk).toNat)
      case atStart => exact ⟨0, Nat.zero_le _, by omega, by omega, by go_num, hkp0, hs0⟩
      case round =>
        clear hs0 hkp0
        obtain ⟨t, ht, hatn, hati, rfl, hkp, hst⟩ := hrel
        by_cases hlt2 : a + t + 1 < i
        · have d3 : decide (((a + t : Nat) : Int) < (i : Int) - 1) = true := decide_eq_true (by omega)
          have htR : t < R.length := by have := HR.out; omega
          obtain ⟨k, hk⟩ : ∃ k, a + t = k := ⟨_, rfl⟩
          have hka : k = (A ++ R.take t).length := by have := HA.out; simp; omega
          obtain ⟨xk, hxk⟩ : ∃ xk, A ++ R.take t ++ X :: (R.drop t ++ D) = xk := ⟨_, rfl⟩
          have exk : xk = (A ++ R.take t) ++ X :: R[t] :: (R.drop (t + 1) ++ D) := by rw [← hxk, List.drop_eq_getElem_cons htR]; simp only [List.cons_append]
          have hrw : Rw g cap n wr xk := by rw [← hxk]; exact hst
          obtain ⟨Z, hZe⟩ : ∃ Z, R[t] = Z := ⟨_, rfl⟩
          rw [hZe] at exk
          have hX : xk[k]? = some X := by rw [exk, hka, List.getElem?_append_right (Nat.le_refl _), Nat.sub_self]; rfl
          have hZ : xk[k + 1]? = some Z := by rw [exk, hka, List.getElem?_append_right (by omega), Nat.add_sub_cancel_left]; rfl
          have Hset := Lib.hid (show (xk.set k Z).set (k + 1) X = A ++ R.take (t + 1) ++ X :: (R.drop (t + 1) ++ D) by
            rw [exk, hka, swap_adj, List.take_succ_eq_append_getElem htR, hZe]
            simp only [List.append_assoc, List.cons_append, List.nil_append])
          have Hnext := Lib.hid (show ∀ W, Rw g cap n W (A ++ R.take (t + 1) ++ X :: (R.drop (t + 1) ++ D)) → OneSt g cap n A R D X (t + 1) W from fun W hW => hW)
          have Hk := Lib.hid hk
          have hkn : k + 1 < n := by omega
          rw [hk] at d3 ⊢
          clear hst hxk exk hka hZe hk htR
          go_wp2_with fail
          refine wp_drawn_store 16 15 [0, 1, 5, 6, 7, 8, 9, 10, 11, 12, 13, 14] (fun i => match i with | 0 => .slice (some ⟨g, 0, none⟩) n cap | 1 => .int .i64 ((k : Nat) : Int) | 2 => .slice (some ⟨g, 0, none⟩) n cap | 3 => .int .i64 ((k : Nat) : Int) | 4 => .int .i64 ((k + 1 : Nat) : Int) | 5 => .slice (some ⟨g, 0, none⟩) n cap | 6 => .int .i64 ((k : Nat) : Int) | 7 => .int .i64 ((k + 1 : Nat) : Int) | 8 => .pointer (some ⟨g, (k + 1) * 8, none⟩) | 9 => .agg (pairEl.E Z).toArray | 10 => .slice (some ⟨g, 0, none⟩) n cap | 11 => .int .i64 ((k : Nat) : Int) | 12 => .pointer (some ⟨g, (k) * 8, none⟩) | 13 => .agg (pairEl.E X).toArray | 14 => .pointer (some ⟨g, (k) * 8, none⟩) | 15 => undef | _ => undef) (by kernel_rfl) (by kernel_rfl) (by kernel_rfl) (by kernel_rfl) (by decide) (by decide) rfl ?_
          intro W hW
          obtain ⟨W1, hk1, ho1, hs1⟩ := (hrw.ext hW).store (k) (by omega) Z
          refine ⟨W1, ?_⟩
          refine ⟨rfl, obl_any (by decide) (fun _ => runs_move (.tmp 0) rfl rfl), ?_⟩
          refine ⟨rfl, obl_any (by decide) (fun _ => runs_move (.tmp 13) rfl rfl), ?_⟩
          refine ⟨rfl, obl_any (by decide) (fun _ => runs_move (.tmp 0) rfl rfl), ?_⟩
          refine ⟨rfl, obl_any (by decide) (fun _ => runs_move (.tmp 13) rfl rfl), ?_⟩
          refine ⟨rfl, obl_any (by decide) (fun _ => runs_bin .add _ _ (.tmp 64) _ rfl _ _ rfl rfl (bin_add _ _ _ _ (by omega) (by omega) (by omega))), ?_⟩
          refine ⟨rfl, obl_any (by decide) (fun _ => runs_move (.tmp 0) rfl rfl), ?_⟩
          refine ⟨rfl, obl_any (by decide) (fun _ => runs_move (.tmp 13) rfl rfl), ?_⟩
          refine ⟨rfl, obl_any (by decide) (fun _ => runs_bin .add _ _ (.tmp 67) _ rfl _ _ rfl rfl (bin_add _ _ _ _ (by omega) (by omega) (by omega))), ?_⟩
          refine ⟨rfl, obl_any (by decide) (fun _ => (runs_index pairEl (.tmp 66) (.tmp 68) rfl n rfl (k + 1) rfl (by omega))), ?_⟩
          refine ⟨rfl, obl_early (by decide) (by decide) (runs_load pairEl rfl (.tmp 69) rfl (k + 1) rfl ((hrw.ext hW).o) _ (hZ)), ?_⟩
          refine ⟨rfl, obl_any (by decide) (fun _ => runs_move (.tmp 0) rfl rfl), ?_⟩
          refine ⟨rfl, obl_any (by decide) (fun _ => runs_move (.tmp 13) rfl rfl), ?_⟩
          refine ⟨rfl, obl_any (by decide) (fun _ => (runs_index pairEl (.tmp 71) (.tmp 72) rfl n rfl (k) rfl (by omega))), ?_⟩
          refine ⟨rfl, obl_early (by decide) (by decide) (runs_load pairEl rfl (.tmp 73) rfl (k) rfl ((hrw.ext hW).o) _ (hX)), ?_⟩
          refine ⟨rfl, obl_any (by decide) (fun _ => (runs_index pairEl (.tmp 61) (.tmp 62) rfl n rfl (k) rfl (by omega))), ?_⟩
          refine ⟨rfl, obl_store rfl (hs1 _ _ (.tmp 75) (.tmp 70) rfl rfl rfl), ?_⟩
          refine OblsSE.nil ?_
          simp only [List.drop_succ_cons, List.drop_zero, putE, setsE, List.set_cons_succ, List.set_cons_zero, Nat.reduceAdd]
          refine wpList_runs rfl (runs_index pairEl (.tmp 63) (.tmp 65) rfl n rfl (k + 1) rfl (by omega)) ?_
          obtain ⟨W2, hk2, ho2, hs2⟩ := ho1.store (k + 1) (by omega) X
          refine wpList_runs rfl (hs2 _ _ (.tmp 76) (.tmp 74) rfl rfl rfl) ?_
          have hrw2 : Rw g cap n W2 ((xk.set k Z).set (k + 1) X) := ho2
          rw [Hset.out] at hrw2
          have hkp2 : Kp g w W2 := hkp.trans ((Kp.of_ext hW).trans (hk1.trans hk2))
          have hst2 := Hnext.out W2 hrw2
          clear hs1 hs2 hk1 hk2 ho1 ho2 hX hZ hrw hkp Hset Hnext hrw2
          go_wp2
          go_roundw
          case rel => have hk := Hk.out; exact ⟨t + 1, by omega, by omega, by omega, by go_num, hkp2, hst2⟩
          case measure => have hk := Hk.out; simp [intOf]; omega
        · have d3 : decide (((a + t : Nat) : Int) < (i : Int) - 1) = false := decide_eq_false (by omega)
          have hti : t = i - m := by omega
          rw [hti] at hst
          have hfin2 : Rw g cap n wr (A ++ (R.take (i - m) ++ X :: R.drop (i - m)) ++ D) := by
            have hst' : Rw g cap n wr _ := hst
            simpa only [List.append_assoc, List.cons_append] using hst'
          clear hst hti
          go_wp2
          (try simp only [Exit.inBlock, Exit.then])
          refine bodyPost_ret (results_none rfl _ _ _) rfl ?_
          exact ⟨rfl, hkp, _, Q.out.1, Q.out.2, hfin2⟩
end
end Go.Proofs.YtjhdamjbljafhaaGreatDoor
