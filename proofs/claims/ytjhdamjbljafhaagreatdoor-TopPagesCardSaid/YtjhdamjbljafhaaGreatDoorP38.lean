/- symMerge: two sorted rows that lie side by side become one, those alike stay in their order. -/
import Derived.Test.YtjhdamjbljafhaaGreatDoorP37
namespace Go.Proofs.YtjhdamjbljafhaaGreatDoor
open Go.RowKit
section
variable {g : Nat} {lt : (RUnit × GUnit) → (RUnit × GUnit) → Bool} {S : (RUnit × GUnit) → Prop} {J : World → Prop} {fv : Value}
def SymAt (g : Nat) (lt : (RUnit × GUnit) → (RUnit × GUnit) → Bool) (S : (RUnit × GUnit) → Prop) (J : World → Prop) (fv : Value) (N : Nat) : Prop := ∀ (cap n a m b : Nat) (A L R D : List (RUnit × GUnit)) (w : World), b - a ≤ N → n ≤ 1048576 → a = A.length → m = A.length + L.length → b = A.length + L.length + R.length → 0 < L.length → 0 < R.length → Srt lt L → Srt lt R → (∀ y ∈ L ++ R, S y) → J w → Rw g cap n w (A ++ L ++ R ++ D) →
    Calls Tryz.prog 145 #[.slice (some ⟨g, 0, none⟩) n cap, .int .i64 (a : Nat), .int .i64 (m : Nat), .int .i64 (b : Nat), fv] w fun e w' => e = .returned (.tuple #[]) ∧ Kp g w w' ∧ ∃ M, Srt lt M ∧ SO lt (L ++ R) M ∧ Rw g cap n w' (A ++ M ++ D)
structure Mid (lt : (RUnit × GUnit) → (RUnit × GUnit) → Bool) (S : (RUnit × GUnit) → Prop) (A L R : List (RUnit × GUnit)) (a m b mid s z : Nat) (L1 L2 R1 R2 : List (RUnit × GUnit)) : Prop where
  eL : L = L1 ++ L2
  eR : R = R1 ++ R2
  lA : a = A.length
  l1 : a + L1.length = s
  l2 : s + L2.length = m
  l3 : m + R1.length = z
  l4 : z + R2.length = b
  l5 : s + R1.length = mid
  l6 : mid + L2.length = z
  sL : Srt lt (L1 ++ L2)
  sR : Srt lt (R1 ++ R2)
  c1 : ∀ r ∈ R1, ∀ l ∈ L2, lt r l = true
  c2 : ∀ l ∈ L1, ∀ r ∈ R2, lt r l = false
  sS : ∀ y ∈ (L1 ++ L2) ++ (R1 ++ R2), S y
theorem mid_of (hw : Wk lt) {A L R xs : List (RUnit × GUnit)} {a m b mid lo hi s z pp : Nat} (hL : Srt lt L) (hR : Srt lt R) (lA : a = A.length) (lL : L.length = m - a) (lR : R.length = b - m) (ham : a < m) (hmb : m < b) (hmid : mid = (a + b) / 2)
    (gL : ∀ j (h : j < L.length), xs[a + j]? = some L[j]) (gR : ∀ i (h : i < R.length), xs[m + i]? = some R[i])
    (hp : pp + 1 = mid + m) (hs : s + z = mid + m) (h1 : lo ≤ s) (h2 : s ≤ hi) (hsm : s ≤ mid) (has : a ≤ s) (hsm2 : s ≤ m) (heb : z ≤ b) (hmz : m ≤ z)
    (low : ∀ k, lo ≤ k → k < s → at2 (fun u v => !lt u v) xs[pp - k]? xs[k]? = true) (high : ∀ k, s ≤ k → k < hi → at2 (fun u v => !lt u v) xs[pp - k]? xs[k]? = false)
    (hc : (lo = mid + m - b ∧ hi = mid) ∨ (lo = a ∧ hi = m)) (hS : ∀ y ∈ L ++ R, S y) : ∃ L1 L2 R1 R2, Mid lt S A L R a m b mid s z L1 L2 R1 R2 := by
  obtain ⟨k1, k2⟩ := sym_cut hw hL hR lL lR ham hmb gL gR hp hs h1 h2 hsm has hsm2 heb low high hc
  refine ⟨L.take (s - a), L.drop (s - a), R.take (z - m), R.drop (z - m), (List.take_append_drop _ _).symm, (List.take_append_drop _ _).symm, lA, by simp; omega, by simp; omega, by simp; omega, by simp; omega, by simp; omega, by simp; omega, by rw [List.take_append_drop]; exact hL, by rw [List.take_append_drop]; exact hR, k1, k2, ?_⟩
  rw [List.take_append_drop, List.take_append_drop]
  exact hS
variable {A L R D L1 L2 R1 R2 : List (RUnit × GUnit)} {cap n a m b mid s z N : Nat}
def St6 (lt : (RUnit × GUnit) → (RUnit × GUnit) → Bool) (g cap n : Nat) (A D L1 L2 R1 R2 : List (RUnit × GUnit)) (w : World) : Prop := ∃ M1, Srt lt M1 ∧ SO lt (L1 ++ R1) M1 ∧ Rw g cap n w (A ++ M1 ++ (L2 ++ R2 ++ D))
theorem Mid.rotate (h : Mid lt S A L R a m b mid s z L1 L2 R1 R2) (fv : Value) (w : World) (hn : n ≤ 1048576) (h1 : s < m) (h2 : s < mid) (hw : Rw g cap n w (A ++ L ++ R ++ D)) :
    Calls Tryz.prog 177 #[.slice (some ⟨g, 0, none⟩) n cap, .int .i64 (s : Nat), .int .i64 (m : Nat), .int .i64 (z : Nat), fv] w fun e w' => e = .returned (.tuple #[]) ∧ Kp g w w' ∧ Rw g cap n w' (A ++ L1 ++ R1 ++ (L2 ++ R2 ++ D)) := by
  have e : A ++ L ++ R ++ D = (A ++ L1) ++ L2 ++ R1 ++ (R2 ++ D) := by rw [h.eL, h.eR]; simp only [List.append_assoc]
  rw [e] at hw
  have := h.l1; have := h.l2; have := h.l3; have := h.l5; have := h.lA
  refine (rotate_any g cap n s m z (A ++ L1) L2 R1 (R2 ++ D) fv w hn (by simp; omega) (by simp; omega) (by simp; omega) (by omega) (by omega) hw).mono ?_
  rintro e w' ⟨rfl, h3, h4⟩
  refine ⟨rfl, h3, ?_⟩
  simpa only [List.append_assoc] using h4
theorem Mid.stay (h : Mid lt S A L R a m b mid s z L1 L2 R1 R2) (w : World) (h0 : ¬ (s < m ∧ s < mid)) (hw : Rw g cap n w (A ++ L ++ R ++ D)) : Rw g cap n w (A ++ L1 ++ R1 ++ (L2 ++ R2 ++ D)) := by
  have := h.l2; have := h.l5
  have hor : L2 = [] ∨ R1 = [] := by
    rcases Nat.lt_or_ge s m with h3 | h3
    · exact .inr (List.eq_nil_of_length_eq_zero (by omega))
    · exact .inl (List.eq_nil_of_length_eq_zero (by omega))
  rw [h.eL, h.eR] at hw
  rcases hor with rfl | rfl <;> simpa only [List.append_assoc, List.nil_append, List.append_nil] using hw
theorem Mid.left (h : Mid lt S A L R a m b mid s z L1 L2 R1 R2) (ih : SymAt g lt S J fv N) (w : World) (hn : n ≤ 1048576) (hN : b - a ≤ N + 1) (hab : mid < b) (h1 : a < s) (h2 : s < mid) (hJ : J w) (hw : Rw g cap n w (A ++ L1 ++ R1 ++ (L2 ++ R2 ++ D))) :
    Calls Tryz.prog 145 #[.slice (some ⟨g, 0, none⟩) n cap, .int .i64 (a : Nat), .int .i64 (s : Nat), .int .i64 (mid : Nat), fv] w fun e w' => e = .returned (.tuple #[]) ∧ Kp g w w' ∧ St6 lt g cap n A D L1 L2 R1 R2 w' := by
  have := h.l1; have := h.l2; have := h.l3; have := h.l4; have := h.l5; have := h.l6; have := h.lA
  refine (ih cap n a s mid A L1 R1 (L2 ++ R2 ++ D) w (by omega) hn h.lA (by omega) (by omega) (by omega) (by omega) h.sL.left h.sR.left (fun y hy => h.sS y ?_) hJ hw)
  rcases List.mem_append.1 hy with hy | hy <;> simp [hy]
theorem Mid.left0 (h : Mid lt S A L R a m b mid s z L1 L2 R1 R2) (w : World) (h0 : ¬ (a < s ∧ s < mid)) (hw : Rw g cap n w (A ++ L1 ++ R1 ++ (L2 ++ R2 ++ D))) : St6 lt g cap n A D L1 L2 R1 R2 w := by
  have := h.l1; have := h.l5
  refine ⟨L1 ++ R1, ?_, SO.refl _, by simpa only [List.append_assoc] using hw⟩
  rcases Nat.lt_or_ge a s with h3 | h3
  · have : R1 = [] := List.eq_nil_of_length_eq_zero (by omega)
    rw [this, List.append_nil]; exact h.sL.left
  · have : L1 = [] := List.eq_nil_of_length_eq_zero (by omega)
    rw [this, List.nil_append]; exact h.sR.left
theorem Mid.right (h : Mid lt S A L R a m b mid s z L1 L2 R1 R2) (hwk : Wk lt) (ih : SymAt g lt S J fv N) (w : World) (hn : n ≤ 1048576) (hN : b - a ≤ N + 1) (hab : a < mid) (h1 : s < m) (h2 : z < b) (hJ : J w) (hw : St6 lt g cap n A D L1 L2 R1 R2 w) :
    Calls Tryz.prog 145 #[.slice (some ⟨g, 0, none⟩) n cap, .int .i64 (mid : Nat), .int .i64 (z : Nat), .int .i64 (b : Nat), fv] w fun e w' => e = .returned (.tuple #[]) ∧ Kp g w w' ∧ ∃ M, Srt lt M ∧ SO lt (L ++ R) M ∧ Rw g cap n w' (A ++ M ++ D) := by
  have := h.l1; have := h.l2; have := h.l3; have := h.l4; have := h.l5; have := h.l6; have := h.lA
  obtain ⟨M1, q1, q2, q3⟩ := hw
  have hl := q2.perm.length_eq
  simp only [List.length_append] at hl
  have e : A ++ M1 ++ (L2 ++ R2 ++ D) = (A ++ M1) ++ L2 ++ R2 ++ D := by simp only [List.append_assoc]
  rw [e] at q3
  refine (ih cap n mid z b (A ++ M1) L2 R2 D w (by omega) hn (by simp; omega) (by simp; omega) (by simp; omega) (by omega) (by omega) h.sL.right h.sR.right (fun y hy => h.sS y ?_) hJ q3).mono ?_
  · rcases List.mem_append.1 hy with hy | hy <;> simp [hy]
  · rintro e w' ⟨rfl, h3, M2, k1, k2, k3⟩
    obtain ⟨m1, m2⟩ := merge_split hwk h.sL h.sR h.c1 h.c2 q2 k2 q1 k1
    refine ⟨rfl, h3, M1 ++ M2, m1, by rw [h.eL, h.eR]; exact m2, by simpa only [List.append_assoc] using k3⟩
theorem Mid.right0 (h : Mid lt S A L R a m b mid s z L1 L2 R1 R2) (hwk : Wk lt) (w : World) (h0 : ¬ (s < m ∧ z < b)) (hw : St6 lt g cap n A D L1 L2 R1 R2 w) : ∃ M, Srt lt M ∧ SO lt (L ++ R) M ∧ Rw g cap n w (A ++ M ++ D) := by
  have := h.l2; have := h.l4
  obtain ⟨M1, q1, q2, q3⟩ := hw
  have hs2 : Srt lt (L2 ++ R2) := by
    rcases Nat.lt_or_ge s m with h3 | h3
    · have : R2 = [] := List.eq_nil_of_length_eq_zero (by omega)
      rw [this, List.append_nil]; exact h.sL.right
    · have : L2 = [] := List.eq_nil_of_length_eq_zero (by omega)
      rw [this, List.nil_append]; exact h.sR.right
  obtain ⟨m1, m2⟩ := merge_split hwk h.sL h.sR h.c1 h.c2 q2 (SO.refl _) q1 hs2
  exact ⟨M1 ++ (L2 ++ R2), m1, by rw [h.eL, h.eR]; exact m2, by simpa only [List.append_assoc] using q3⟩
set_option maxRecDepth 100000 in
set_option maxHeartbeats 6400000 in
theorem sym_step (C : CmpC g lt S J fv) (hw : Wk lt) (N : Nat) (ih : SymAt g lt S J fv N) : SymAt g lt S J fv (N + 1) := by
  intro cap n a m b A L R D w hN hn ha hm hb hL0 hR0 hL hR hS hJ hrow
  by_cases hL1 : L.length = 1
  · obtain ⟨X, rfl⟩ := List.length_eq_one_iff.1 hL1
    have e : A ++ [X] ++ R ++ D = A ++ X :: (R ++ D) := by simp
    rw [e] at hrow
    exact sym_one C hw cap n a m b A R D X w hn ha hm hb hR (fun y hy => hS y (by simp [hy])) (hS X (by simp)) hJ hrow
  · by_cases hR1 : R.length = 1
    · obtain ⟨Y, rfl⟩ := List.length_eq_one_iff.1 hR1
      have e : A ++ L ++ [Y] ++ D = A ++ L ++ Y :: D := by simp
      rw [e] at hrow
      exact sym_two C hw cap n a m b A L D Y w hn ha hm hb (by omega) hL (fun y hy => hS y (by simp [hy])) (hS Y (by simp)) hJ hrow
    have d0 : ((m : Int) - (a : Int) == 1) = false := by simp; omega
    have d1 : ((b : Int) - (m : Int) == 1) = false := by simp; omega
    have hbn : b ≤ n := by have := hrow.len; simp at this; omega
    have ham : a < m := by omega
    have hmb : m < b := by omega
    have hab : a + 2 ≤ b := by omega
    have lL : L.length = m - a := by omega
    have lR : R.length = b - m := by omega
    obtain ⟨mid, hmid⟩ : ∃ mid, mid = (a + b) / 2 := ⟨_, rfl⟩
    have emid : ((a : Int) + (b : Int)) / 2 = ((mid : Nat) : Int) := by omega
    have hmid1 : a < mid := by omega
    have hmid2 : mid < b := by omega
    have hmid3 : 2 * mid ≤ a + b ∧ a + b ≤ 2 * mid + 1 := by omega
    obtain ⟨pp, hpp⟩ : ∃ pp, pp = mid + m - 1 := ⟨_, rfl⟩
    have epp : (mid : Int) + (m : Int) - 1 = ((pp : Nat) : Int) := by omega
    have hpp1 : pp + 1 = mid + m := by omega
    obtain ⟨xs, hxs⟩ : ∃ xs, A ++ L ++ R ++ D = xs := ⟨_, rfl⟩
    have hxl : xs.length = n := by rw [← hxs]; exact hrow.len
    have e1 : xs = A ++ L ++ (R ++ D) := by rw [← hxs]; simp only [List.append_assoc]
    have e2 : xs = (A ++ L) ++ R ++ D := hxs.symm
    have hSI1 : SI lt xs a m := by
      have := SI.of (A := A) (R := R ++ D) hL
      rw [← e1] at this
      rw [ha, hm]; exact this
    have hSI2 : SI lt xs m b := by
      have := SI.of (A := A ++ L) (R := D) hR
      rw [← e2, List.length_append] at this
      rw [hm, hb]; exact this
    have gL : ∀ j (h : j < L.length), xs[a + j]? = some L[j] := fun j h => by rw [e1, ha]; exact seg_get A L (R ++ D) j h
    have gR : ∀ i (h : i < R.length), xs[m + i]? = some R[i] := fun i h => by rw [e2, hm, ← List.length_append]; exact seg_get (A ++ L) R D i h
    have HS1 := Lib.hid (show ∀ k, a ≤ k → k < m → ∃ y, xs[k]? = some y ∧ S y from fun k h1 h2 => by
      have := gL (k - a) (by omega)
      rw [show a + (k - a) = k from by omega] at this
      exact ⟨_, this, hS _ (List.mem_append_left _ (List.getElem_mem _))⟩)
    have HS2 := Lib.hid (show ∀ k, m ≤ k → k < b → ∃ y, xs[k]? = some y ∧ S y from fun k h1 h2 => by
      have := gR (k - m) (by omega)
      rw [show m + (k - m) = k from by omega] at this
      exact ⟨_, this, hS _ (List.mem_append_right _ (List.getElem_mem _))⟩)
    have hrow' : Rw g cap n w xs := by rw [← hxs]; exact hrow
    have HA := Lib.hid ha
    have Hxs := Lib.hid hxs
    replace C := Lib.hid C
    have Hw := Lib.hid hw
    have HJ := Lib.hid hJ
    have Hih := Lib.hid ih
    by_cases hmm : mid < m
    · have hcl : True := trivial
      obtain ⟨lo, hlo⟩ : ∃ lo, lo = mid + m - b := ⟨_, rfl⟩
      have elo : (mid : Int) + (m : Int) - (b : Int) = ((lo : Nat) : Int) := by omega
      have hgt : decide ((mid : Int) < (m : Int)) = true := decide_eq_true (by omega)
      have hlo1 : a ≤ lo := by omega
      have hlo2 : lo ≤ mid := by omega
      have Hlo := Lib.hid hlo
      have Hmono := Lib.hid (mono_both Hw.out hSI1 hSI2 (by omega) (lo := lo) (hi := mid) (pp := pp) (by omega) (by omega) (fun c h1 h2 => by omega))
      have Hbound := Lib.hid (show ∀ s, lo ≤ s → s ≤ mid → ∃ z, s + z = mid + m ∧ s ≤ mid ∧ a ≤ s ∧ s ≤ m ∧ z ≤ b ∧ m ≤ z from fun s h1 h2 => ⟨mid + m - s, by omega, by omega, by omega, by omega, by omega, by omega⟩)
      have Hcut := Lib.hid (show ∀ s z, s + z = mid + m → lo ≤ s → s ≤ mid → s ≤ mid → a ≤ s → s ≤ m → z ≤ b → m ≤ z → Bs (fun k => at2 (fun u v => !lt u v) xs[pp - k]? xs[k]?) lo mid s s → ∃ L1 L2 R1 R2, Mid lt S A L R a m b mid s z L1 L2 R1 R2 from fun s z h1 h2 h3 h4 h5 h6 h7 h8 hb =>
        mid_of Hw.out hL hR HA.out lL lR ham hmb hmid gL gR (by omega) h1 h2 h3 h4 h5 h6 h7 h8 hb.low hb.high (.inl ⟨Hlo.out, rfl⟩) hS)
      clear hSI1 hSI2 hlo
      clear hw hL hR hS hJ hrow ha hm hb hxs hxl e1 e2 gL gR lL lR hmid hpp ih hL1 hR1 hL0 hR0 hcl
      go_enter Tryz.func145, Tryz.ntmps145
      go_wp2
      go_loopw [20, 21] (fun vi vj wr => ∃ i j : Nat, lo ≤ i ∧ i ≤ j ∧ j ≤ mid ∧ vi = .int .i64 (i : Nat) ∧ vj = .int .i64 (j : Nat) ∧ Ext w wr ∧ Hid (Bs (fun k => at2 (fun u v => !lt u v) xs[pp - k]? xs[k]?) lo mid i j)) (fun vi vj _ => (intOf vj).toNat - (intOf vi).toNat)
      case atStart => exact ⟨lo, mid, Nat.le_refl _, by omega, Nat.le_refl _, by go_num, by go_num, Ext.refl _, Lib.hid (Bs.start (by omega))⟩
      case round =>
        obtain ⟨i, j, hmi, hij, hjb, rfl, rfl, hxr, hbs⟩ := hrel
        by_cases hlt : i < j
        · have d2 : decide ((i : Int) < (j : Int)) = true := decide_eq_true (by omega)
          obtain ⟨h, hh⟩ : ∃ h, h = (i + j) / 2 := ⟨_, rfl⟩
          have eh : ((i : Int) + (j : Int)) / 2 = ((h : Nat) : Int) := by omega
          have hh1 : i ≤ h := by omega
          have hh2 : h < j := by omega
          obtain ⟨X, hX, sX⟩ := HS1.out h (by omega) (by omega)
          obtain ⟨Y, hY, sY⟩ := HS2.out (pp - h) (by omega) (by omega)
          have hrw := hrow'.ext hxr
          have HP : ∀ b, lt Y X = b → at2 (fun u v => !lt u v) xs[pp - h]? xs[h]? = !b := fun b hb => by rw [hX, hY]; simp only [at2, hb]
          have hph : pp - h < n := by omega
          have hhp : h ≤ pp := by omega
          clear hh
          obtain ⟨bb, hbb0⟩ : ∃ bb, lt Y X = bb := ⟨_, rfl⟩
          have Hp := Lib.hid (HP _ hbb0)
          have hbb := Lib.hid hbb0
          have HJr := Lib.hid (C.out.keep _ _ HJ.out (Kp.of_ext hxr))
          clear hbb0 HP
          cases bb
          case true =>
            go_wp2_with fail
            refine wp_drawn (by kernel_rfl) (fun i => match i with | 0 => Ty.is (fv) | 1 => Ty.is (.slice (some ⟨g, 0, none⟩) n cap) | 2 => Ty.is (.int .i64 ((pp : Nat) : Int)) | 3 => Ty.is (.int .i64 ((h : Nat) : Int)) | 4 => Ty.is (.int .i64 ((pp - h : Nat) : Int)) | 5 => TCells (pairEl.E Y) | 6 => Ty.is (.agg (pairEl.E Y).toArray) | 7 => Ty.is (.slice (some ⟨g, 0, none⟩) n cap) | 8 => Ty.is (.int .i64 ((h : Nat) : Int)) | 9 => TCells (pairEl.E X) | 10 => Ty.is (.agg (pairEl.E X).toArray) | 11 => TLt true | 12 => Ty.is (.bool true) | 13 => Ty.is (.bool false) | _ => Ty.any) (by kernel_rfl) rfl ?_
            intro v
            refine ⟨?_, ?_, ?_, ?_, ?_, ?_, ?_, ?_, ?_, ?_, ?_, ?_, ?_, ?_, ?_⟩
            · intro wq hq hd
              refine ob_plain rfl ?_
              exact yld_move (.tmp 4) rfl rfl rfl
            · intro wq hq hd
              refine ob_plain rfl ?_
              exact yld_move (.tmp 0) rfl rfl rfl
            · intro wq hq hd
              refine ob_plain rfl ?_
              exact yld_move (.tmp 22) rfl rfl rfl
            · intro wq hq hd
              refine ob_plain rfl ?_
              exact yld_move (.tmp 23) rfl rfl rfl
            · intro wq hq hd
              obtain ⟨h0, h1, -⟩ := hd
              change v 2 = _ at h0
              change v 3 = _ at h1
              refine ob_plain rfl ?_
              exact yld_binInt .sub 3 3 (.tmp 160) (.tmp 161) rfl _ _ h0 h1 (bin_sub _ _ _ _ (by omega) (by omega) (by omega)) rfl
            · intro wq hq hd
              obtain ⟨h0, h1, -⟩ := hd
              change v 1 = _ at h0
              change v 4 = _ at h1
              refine ob_plain rfl ?_
              exact yld_indexRw (.tmp 159) (.tmp 162) rfl h0 (pp - h) h1 (hrw.ext hq) hY
            · intro wq hq hd
              obtain ⟨h0, -⟩ := hd
              change (TCells (pairEl.E Y)).p (v 5) wq at h0
              refine ob_plain rfl ?_
              exact yld_loadRw (.tmp 163) rfl h0
            · intro wq hq hd
              refine ob_plain rfl ?_
              exact yld_move (.tmp 0) rfl rfl rfl
            · intro wq hq hd
              refine ob_plain rfl ?_
              exact yld_move (.tmp 23) rfl rfl rfl
            · intro wq hq hd
              obtain ⟨h0, h1, -⟩ := hd
              change v 7 = _ at h0
              change v 8 = _ at h1
              refine ob_plain rfl ?_
              exact yld_indexRw (.tmp 165) (.tmp 166) rfl h0 (h) h1 (hrw.ext hq) hX
            · intro wq hq hd
              obtain ⟨h0, -⟩ := hd
              change (TCells (pairEl.E X)).p (v 9) wq at h0
              refine ob_plain rfl ?_
              exact yld_loadRw (.tmp 167) rfl h0
            · intro wq hq hd
              obtain ⟨h0, h1, h2, -⟩ := hd
              change v 0 = _ at h0
              change v 6 = _ at h1
              change v 10 = _ at h2
              refine ob_plain rfl ?_
              exact hbb.out ▸ yld_cmp C.out (.tmp 158) (.tmp 164) (.tmp 168) _ rfl h0 h1 h2 sY sX (C.out.keep _ _ HJr.out (Kp.of_ext hq))
            · intro wq hq hd
              obtain ⟨h0, -⟩ := hd
              change (TLt true).p (v 11) wq at h0
              refine ob_plain rfl ?_
              exact yld_neg _ _ (.tmp 169) _ rfl _ h0 rfl
            · intro wq hq hd
              obtain ⟨h0, -⟩ := hd
              change v 12 = _ at h0
              refine ob_plain rfl ?_
              exact yld_not (.tmp 170) 4 rfl _ h0 rfl
            · intro wq hq hT
              have k13 := hT 13 (by decide)
              change v 13 = _ at k13
              clear hT
              simp only [List.drop_succ_cons, List.drop_zero, putE, setsE, List.set_cons_succ, List.set_cons_zero, Nat.reduceAdd]
              rw [k13]
              have hbs2 := Lib.hid (hbs.out.down Hmono.out (by omega) (by omega) Hp.out)
              have hxr2 := hxr.trans hq
              clear hY hX hrw hbs hxr Hp
              go_wp2
              go_roundw
              case rel => exact ⟨i, h, by omega, by omega, by omega, by go_num, by go_num, hxr2, hbs2⟩
              case measure => simp [intOf]; omega
          case false =>
            go_wp2_with fail
            refine wp_drawn (by kernel_rfl) (fun i => match i with | 0 => Ty.is (fv) | 1 => Ty.is (.slice (some ⟨g, 0, none⟩) n cap) | 2 => Ty.is (.int .i64 ((pp : Nat) : Int)) | 3 => Ty.is (.int .i64 ((h : Nat) : Int)) | 4 => Ty.is (.int .i64 ((pp - h : Nat) : Int)) | 5 => TCells (pairEl.E Y) | 6 => Ty.is (.agg (pairEl.E Y).toArray) | 7 => Ty.is (.slice (some ⟨g, 0, none⟩) n cap) | 8 => Ty.is (.int .i64 ((h : Nat) : Int)) | 9 => TCells (pairEl.E X) | 10 => Ty.is (.agg (pairEl.E X).toArray) | 11 => TLt false | 12 => Ty.is (.bool false) | 13 => Ty.is (.bool true) | _ => Ty.any) (by kernel_rfl) rfl ?_
            intro v
            refine ⟨?_, ?_, ?_, ?_, ?_, ?_, ?_, ?_, ?_, ?_, ?_, ?_, ?_, ?_, ?_⟩
            · intro wq hq hd
              refine ob_plain rfl ?_
              exact yld_move (.tmp 4) rfl rfl rfl
            · intro wq hq hd
              refine ob_plain rfl ?_
              exact yld_move (.tmp 0) rfl rfl rfl
            · intro wq hq hd
              refine ob_plain rfl ?_
              exact yld_move (.tmp 22) rfl rfl rfl
            · intro wq hq hd
              refine ob_plain rfl ?_
              exact yld_move (.tmp 23) rfl rfl rfl
            · intro wq hq hd
              obtain ⟨h0, h1, -⟩ := hd
              change v 2 = _ at h0
              change v 3 = _ at h1
              refine ob_plain rfl ?_
              exact yld_binInt .sub 3 3 (.tmp 160) (.tmp 161) rfl _ _ h0 h1 (bin_sub _ _ _ _ (by omega) (by omega) (by omega)) rfl
            · intro wq hq hd
              obtain ⟨h0, h1, -⟩ := hd
              change v 1 = _ at h0
              change v 4 = _ at h1
              refine ob_plain rfl ?_
              exact yld_indexRw (.tmp 159) (.tmp 162) rfl h0 (pp - h) h1 (hrw.ext hq) hY
            · intro wq hq hd
              obtain ⟨h0, -⟩ := hd
              change (TCells (pairEl.E Y)).p (v 5) wq at h0
              refine ob_plain rfl ?_
              exact yld_loadRw (.tmp 163) rfl h0
            · intro wq hq hd
              refine ob_plain rfl ?_
              exact yld_move (.tmp 0) rfl rfl rfl
            · intro wq hq hd
              refine ob_plain rfl ?_
              exact yld_move (.tmp 23) rfl rfl rfl
            · intro wq hq hd
              obtain ⟨h0, h1, -⟩ := hd
              change v 7 = _ at h0
              change v 8 = _ at h1
              refine ob_plain rfl ?_
              exact yld_indexRw (.tmp 165) (.tmp 166) rfl h0 (h) h1 (hrw.ext hq) hX
            · intro wq hq hd
              obtain ⟨h0, -⟩ := hd
              change (TCells (pairEl.E X)).p (v 9) wq at h0
              refine ob_plain rfl ?_
              exact yld_loadRw (.tmp 167) rfl h0
            · intro wq hq hd
              obtain ⟨h0, h1, h2, -⟩ := hd
              change v 0 = _ at h0
              change v 6 = _ at h1
              change v 10 = _ at h2
              refine ob_plain rfl ?_
              exact hbb.out ▸ yld_cmp C.out (.tmp 158) (.tmp 164) (.tmp 168) _ rfl h0 h1 h2 sY sX (C.out.keep _ _ HJr.out (Kp.of_ext hq))
            · intro wq hq hd
              obtain ⟨h0, -⟩ := hd
              change (TLt false).p (v 11) wq at h0
              refine ob_plain rfl ?_
              exact yld_neg _ _ (.tmp 169) _ rfl _ h0 rfl
            · intro wq hq hd
              obtain ⟨h0, -⟩ := hd
              change v 12 = _ at h0
              refine ob_plain rfl ?_
              exact yld_not (.tmp 170) 4 rfl _ h0 rfl
            · intro wq hq hT
              have k13 := hT 13 (by decide)
              change v 13 = _ at k13
              clear hT
              simp only [List.drop_succ_cons, List.drop_zero, putE, setsE, List.set_cons_succ, List.set_cons_zero, Nat.reduceAdd]
              rw [k13]
              have hbs2 := Lib.hid (hbs.out.up Hmono.out (by omega) (by omega) Hp.out)
              have hxr2 := hxr.trans hq
              clear hY hX hrw hbs hxr Hp
              go_wp2
              go_roundw
              case rel => exact ⟨h + 1, j, by omega, by omega, by omega, by go_num, by go_num, hxr2, hbs2⟩
              case measure => simp [intOf]; omega
        · obtain rfl : i = j := by omega
          have d2 : decide ((i : Int) < (i : Int)) = false := decide_eq_false (by omega)
          have hb9 := hbs.out
          obtain ⟨s, hs⟩ : ∃ s, i = s := ⟨_, rfl⟩
          rw [hs] at hb9 hmi hjb d2 ⊢
          obtain ⟨z, hz, hsmid, has, hsm, hzb, hmz⟩ := Hbound.out s hmi hjb
          have ez : (mid : Int) + (m : Int) - (s : Int) = ((z : Nat) : Int) := by omega
          obtain ⟨L1, L2, R1, R2, hM⟩ := Hcut.out s z hz hmi hjb hsmid has hsm hzb hmz hb9
          have HM := Lib.hid hM
          have hsz : s + z = mid + m := hz
          have hrw : Rw g cap n wr (A ++ L ++ R ++ D) := by rw [Hxs.out]; exact hrow'.ext hxr
          have hkp := Kp.of_ext (g := g) hxr
          clear hbs hb9 hM hxr hs hrow' Hcut Hbound Hmono HS1 HS2 hz
          by_cases hP : s < m
          · by_cases hQ : s < mid
            · by_cases hK : a < s
              · by_cases hT : z < b
                · first
                  | (exfalso; omega)
                  | (have f1 : decide ((s : Int) < (m : Int)) = true := decide_eq_true (by omega)
                     have f2 : decide ((m : Int) < (z : Int)) = true := decide_eq_true (by omega)
                     have f3 : decide ((a : Int) < (s : Int)) = true := decide_eq_true (by omega)
                     have f4 : decide ((s : Int) < (mid : Int)) = true := decide_eq_true (by omega)
                     have f5 : decide ((mid : Int) < (z : Int)) = true := decide_eq_true (by omega)
                     have f6 : decide ((z : Int) < (b : Int)) = true := decide_eq_true (by omega)
                     have Hc := Lib.hid (HM.out.rotate fv wr hn hP hQ hrw)
                     clear hrw
                     go_wp2_with fail
                     refine (Hc.out).mono ?_
                     rintro e5 w5 ⟨rfl, hk5, hr5⟩
                     replace hkp := hkp.trans hk5
                     clear hk5 Hc
                     have HJ5 := Lib.hid (C.out.keep _ _ HJ.out hkp)
                     have Hc := Lib.hid (HM.out.left Hih.out w5 hn hN hmid2 hK hQ HJ5.out hr5)
                     clear hr5
                     go_wp2_with fail
                     refine (Hc.out).mono ?_
                     rintro e6 w6 ⟨rfl, hk6, hr6⟩
                     replace hkp := hkp.trans hk6
                     clear hk6 Hc
                     have HJ6 := Lib.hid (C.out.keep _ _ HJ.out hkp)
                     have Hc := Lib.hid (HM.out.right Hw.out Hih.out w6 hn hN hmid1 hP hT HJ6.out hr6)
                     clear hr6
                     go_wp2_with fail
                     refine (Hc.out).mono ?_
                     rintro e7 w7 ⟨rfl, hk7, hr7⟩
                     replace hkp := hkp.trans hk7
                     clear hk7 Hc
                     go_wp2
                     (try simp only [Exit.inBlock, Exit.then])
                     refine bodyPost_end (results_none rfl _ _ _) rfl ?_
                     exact ⟨rfl, hkp, hr7⟩)
                · first
                  | (exfalso; omega)
                  | (have f1 : decide ((s : Int) < (m : Int)) = true := decide_eq_true (by omega)
                     have f2 : decide ((m : Int) < (z : Int)) = true := decide_eq_true (by omega)
                     have f3 : decide ((a : Int) < (s : Int)) = true := decide_eq_true (by omega)
                     have f4 : decide ((s : Int) < (mid : Int)) = true := decide_eq_true (by omega)
                     have f5 : decide ((mid : Int) < (z : Int)) = true := decide_eq_true (by omega)
                     have f6 : decide ((z : Int) < (b : Int)) = false := decide_eq_false (by omega)
                     have Hc := Lib.hid (HM.out.rotate fv wr hn hP hQ hrw)
                     clear hrw
                     go_wp2_with fail
                     refine (Hc.out).mono ?_
                     rintro e5 w5 ⟨rfl, hk5, hr5⟩
                     replace hkp := hkp.trans hk5
                     clear hk5 Hc
                     have HJ5 := Lib.hid (C.out.keep _ _ HJ.out hkp)
                     have Hc := Lib.hid (HM.out.left Hih.out w5 hn hN hmid2 hK hQ HJ5.out hr5)
                     clear hr5
                     go_wp2_with fail
                     refine (Hc.out).mono ?_
                     rintro e6 w6 ⟨rfl, hk6, hr6⟩
                     replace hkp := hkp.trans hk6
                     clear hk6 Hc
                     have HJ6 := Lib.hid (C.out.keep _ _ HJ.out hkp)
                     have hr7 := HM.out.right0 Hw.out w6 (fun h => hT h.2) hr6
                     clear hr6
                     go_wp2
                     (try simp only [Exit.inBlock, Exit.then])
                     refine bodyPost_end (results_none rfl _ _ _) rfl ?_
                     exact ⟨rfl, hkp, hr7⟩)
              · by_cases hT : z < b
                · first
                  | (exfalso; omega)
                  | (have f1 : decide ((s : Int) < (m : Int)) = true := decide_eq_true (by omega)
                     have f2 : decide ((m : Int) < (z : Int)) = true := decide_eq_true (by omega)
                     have f3 : decide ((a : Int) < (s : Int)) = false := decide_eq_false (by omega)
                     have f4 : decide ((s : Int) < (mid : Int)) = true := decide_eq_true (by omega)
                     have f5 : decide ((mid : Int) < (z : Int)) = true := decide_eq_true (by omega)
                     have f6 : decide ((z : Int) < (b : Int)) = true := decide_eq_true (by omega)
                     have Hc := Lib.hid (HM.out.rotate fv wr hn hP hQ hrw)
                     clear hrw
                     go_wp2_with fail
                     refine (Hc.out).mono ?_
                     rintro e5 w5 ⟨rfl, hk5, hr5⟩
                     replace hkp := hkp.trans hk5
                     clear hk5 Hc
                     have HJ5 := Lib.hid (C.out.keep _ _ HJ.out hkp)
                     have hr6 := HM.out.left0 w5 (fun h => hK h.1) hr5
                     clear hr5
                     have HJ6 := Lib.hid (C.out.keep _ _ HJ.out hkp)
                     have Hc := Lib.hid (HM.out.right Hw.out Hih.out w5 hn hN hmid1 hP hT HJ6.out hr6)
                     clear hr6
                     go_wp2_with fail
                     refine (Hc.out).mono ?_
                     rintro e7 w7 ⟨rfl, hk7, hr7⟩
                     replace hkp := hkp.trans hk7
                     clear hk7 Hc
                     go_wp2
                     (try simp only [Exit.inBlock, Exit.then])
                     refine bodyPost_end (results_none rfl _ _ _) rfl ?_
                     exact ⟨rfl, hkp, hr7⟩)
                · first
                  | (exfalso; omega)
                  | (have f1 : decide ((s : Int) < (m : Int)) = true := decide_eq_true (by omega)
                     have f2 : decide ((m : Int) < (z : Int)) = true := decide_eq_true (by omega)
                     have f3 : decide ((a : Int) < (s : Int)) = false := decide_eq_false (by omega)
                     have f4 : decide ((s : Int) < (mid : Int)) = true := decide_eq_true (by omega)
                     have f5 : decide ((mid : Int) < (z : Int)) = true := decide_eq_true (by omega)
                     have f6 : decide ((z : Int) < (b : Int)) = false := decide_eq_false (by omega)
                     have Hc := Lib.hid (HM.out.rotate fv wr hn hP hQ hrw)
                     clear hrw
                     go_wp2_with fail
                     refine (Hc.out).mono ?_
                     rintro e5 w5 ⟨rfl, hk5, hr5⟩
                     replace hkp := hkp.trans hk5
                     clear hk5 Hc
                     have HJ5 := Lib.hid (C.out.keep _ _ HJ.out hkp)
                     have hr6 := HM.out.left0 w5 (fun h => hK h.1) hr5
                     clear hr5
                     have HJ6 := Lib.hid (C.out.keep _ _ HJ.out hkp)
                     have hr7 := HM.out.right0 Hw.out w5 (fun h => hT h.2) hr6
                     clear hr6
                     go_wp2
                     (try simp only [Exit.inBlock, Exit.then])
                     refine bodyPost_end (results_none rfl _ _ _) rfl ?_
                     exact ⟨rfl, hkp, hr7⟩)
            · by_cases hK : a < s
              · by_cases hT : z < b
                · first
                  | (exfalso; omega)
                  | (have f1 : decide ((s : Int) < (m : Int)) = true := decide_eq_true (by omega)
                     have f2 : decide ((m : Int) < (z : Int)) = false := decide_eq_false (by omega)
                     have f3 : decide ((a : Int) < (s : Int)) = true := decide_eq_true (by omega)
                     have f4 : decide ((s : Int) < (mid : Int)) = false := decide_eq_false (by omega)
                     have f5 : decide ((mid : Int) < (z : Int)) = true := decide_eq_true (by omega)
                     have f6 : decide ((z : Int) < (b : Int)) = true := decide_eq_true (by omega)
                     have hr5 := HM.out.stay wr (fun h => hQ h.2) hrw
                     clear hrw
                     have HJ5 := Lib.hid (C.out.keep _ _ HJ.out hkp)
                     have hr6 := HM.out.left0 wr (fun h => hQ h.2) hr5
                     clear hr5
                     have HJ6 := Lib.hid (C.out.keep _ _ HJ.out hkp)
                     have Hc := Lib.hid (HM.out.right Hw.out Hih.out wr hn hN hmid1 hP hT HJ6.out hr6)
                     clear hr6
                     go_wp2_with fail
                     refine (Hc.out).mono ?_
                     rintro e7 w7 ⟨rfl, hk7, hr7⟩
                     replace hkp := hkp.trans hk7
                     clear hk7 Hc
                     go_wp2
                     (try simp only [Exit.inBlock, Exit.then])
                     refine bodyPost_end (results_none rfl _ _ _) rfl ?_
                     exact ⟨rfl, hkp, hr7⟩)
                · first
                  | (exfalso; omega)
                  | (have f1 : decide ((s : Int) < (m : Int)) = true := decide_eq_true (by omega)
                     have f2 : decide ((m : Int) < (z : Int)) = false := decide_eq_false (by omega)
                     have f3 : decide ((a : Int) < (s : Int)) = true := decide_eq_true (by omega)
                     have f4 : decide ((s : Int) < (mid : Int)) = false := decide_eq_false (by omega)
                     have f5 : decide ((mid : Int) < (z : Int)) = true := decide_eq_true (by omega)
                     have f6 : decide ((z : Int) < (b : Int)) = false := decide_eq_false (by omega)
                     have hr5 := HM.out.stay wr (fun h => hQ h.2) hrw
                     clear hrw
                     have HJ5 := Lib.hid (C.out.keep _ _ HJ.out hkp)
                     have hr6 := HM.out.left0 wr (fun h => hQ h.2) hr5
                     clear hr5
                     have HJ6 := Lib.hid (C.out.keep _ _ HJ.out hkp)
                     have hr7 := HM.out.right0 Hw.out wr (fun h => hT h.2) hr6
                     clear hr6
                     go_wp2
                     (try simp only [Exit.inBlock, Exit.then])
                     refine bodyPost_end (results_none rfl _ _ _) rfl ?_
                     exact ⟨rfl, hkp, hr7⟩)
              · by_cases hT : z < b
                · first
                  | (exfalso; omega)
                  | (have f1 : decide ((s : Int) < (m : Int)) = true := decide_eq_true (by omega)
                     have f2 : decide ((m : Int) < (z : Int)) = false := decide_eq_false (by omega)
                     have f3 : decide ((a : Int) < (s : Int)) = false := decide_eq_false (by omega)
                     have f4 : decide ((s : Int) < (mid : Int)) = false := decide_eq_false (by omega)
                     have f5 : decide ((mid : Int) < (z : Int)) = true := decide_eq_true (by omega)
                     have f6 : decide ((z : Int) < (b : Int)) = true := decide_eq_true (by omega)
                     have hr5 := HM.out.stay wr (fun h => hQ h.2) hrw
                     clear hrw
                     have HJ5 := Lib.hid (C.out.keep _ _ HJ.out hkp)
                     have hr6 := HM.out.left0 wr (fun h => hK h.1) hr5
                     clear hr5
                     have HJ6 := Lib.hid (C.out.keep _ _ HJ.out hkp)
                     have Hc := Lib.hid (HM.out.right Hw.out Hih.out wr hn hN hmid1 hP hT HJ6.out hr6)
                     clear hr6
                     go_wp2_with fail
                     refine (Hc.out).mono ?_
                     rintro e7 w7 ⟨rfl, hk7, hr7⟩
                     replace hkp := hkp.trans hk7
                     clear hk7 Hc
                     go_wp2
                     (try simp only [Exit.inBlock, Exit.then])
                     refine bodyPost_end (results_none rfl _ _ _) rfl ?_
                     exact ⟨rfl, hkp, hr7⟩)
                · first
                  | (exfalso; omega)
                  | (have f1 : decide ((s : Int) < (m : Int)) = true := decide_eq_true (by omega)
                     have f2 : decide ((m : Int) < (z : Int)) = false := decide_eq_false (by omega)
                     have f3 : decide ((a : Int) < (s : Int)) = false := decide_eq_false (by omega)
                     have f4 : decide ((s : Int) < (mid : Int)) = false := decide_eq_false (by omega)
                     have f5 : decide ((mid : Int) < (z : Int)) = true := decide_eq_true (by omega)
                     have f6 : decide ((z : Int) < (b : Int)) = false := decide_eq_false (by omega)
                     have hr5 := HM.out.stay wr (fun h => hQ h.2) hrw
                     clear hrw
                     have HJ5 := Lib.hid (C.out.keep _ _ HJ.out hkp)
                     have hr6 := HM.out.left0 wr (fun h => hK h.1) hr5
                     clear hr5
                     have HJ6 := Lib.hid (C.out.keep _ _ HJ.out hkp)
                     have hr7 := HM.out.right0 Hw.out wr (fun h => hT h.2) hr6
                     clear hr6
                     go_wp2
                     (try simp only [Exit.inBlock, Exit.then])
                     refine bodyPost_end (results_none rfl _ _ _) rfl ?_
                     exact ⟨rfl, hkp, hr7⟩)
          · by_cases hQ : s < mid
            · by_cases hK : a < s
              · by_cases hT : z < b
                · first
                  | (exfalso; omega)
                  | (have f1 : decide ((s : Int) < (m : Int)) = false := decide_eq_false (by omega)
                     have f2 : decide ((m : Int) < (z : Int)) = true := decide_eq_true (by omega)
                     have f3 : decide ((a : Int) < (s : Int)) = true := decide_eq_true (by omega)
                     have f4 : decide ((s : Int) < (mid : Int)) = true := decide_eq_true (by omega)
                     have f5 : decide ((mid : Int) < (z : Int)) = false := decide_eq_false (by omega)
                     have f6 : decide ((z : Int) < (b : Int)) = true := decide_eq_true (by omega)
                     have hr5 := HM.out.stay wr (fun h => hP h.1) hrw
                     clear hrw
                     have HJ5 := Lib.hid (C.out.keep _ _ HJ.out hkp)
                     have Hc := Lib.hid (HM.out.left Hih.out wr hn hN hmid2 hK hQ HJ5.out hr5)
                     clear hr5
                     go_wp2_with fail
                     refine (Hc.out).mono ?_
                     rintro e6 w6 ⟨rfl, hk6, hr6⟩
                     replace hkp := hkp.trans hk6
                     clear hk6 Hc
                     have HJ6 := Lib.hid (C.out.keep _ _ HJ.out hkp)
                     have hr7 := HM.out.right0 Hw.out w6 (fun h => hP h.1) hr6
                     clear hr6
                     go_wp2
                     (try simp only [Exit.inBlock, Exit.then])
                     refine bodyPost_end (results_none rfl _ _ _) rfl ?_
                     exact ⟨rfl, hkp, hr7⟩)
                · first
                  | (exfalso; omega)
                  | (have f1 : decide ((s : Int) < (m : Int)) = false := decide_eq_false (by omega)
                     have f2 : decide ((m : Int) < (z : Int)) = true := decide_eq_true (by omega)
                     have f3 : decide ((a : Int) < (s : Int)) = true := decide_eq_true (by omega)
                     have f4 : decide ((s : Int) < (mid : Int)) = true := decide_eq_true (by omega)
                     have f5 : decide ((mid : Int) < (z : Int)) = false := decide_eq_false (by omega)
                     have f6 : decide ((z : Int) < (b : Int)) = false := decide_eq_false (by omega)
                     have hr5 := HM.out.stay wr (fun h => hP h.1) hrw
                     clear hrw
                     have HJ5 := Lib.hid (C.out.keep _ _ HJ.out hkp)
                     have Hc := Lib.hid (HM.out.left Hih.out wr hn hN hmid2 hK hQ HJ5.out hr5)
                     clear hr5
                     go_wp2_with fail
                     refine (Hc.out).mono ?_
                     rintro e6 w6 ⟨rfl, hk6, hr6⟩
                     replace hkp := hkp.trans hk6
                     clear hk6 Hc
                     have HJ6 := Lib.hid (C.out.keep _ _ HJ.out hkp)
                     have hr7 := HM.out.right0 Hw.out w6 (fun h => hP h.1) hr6
                     clear hr6
                     go_wp2
                     (try simp only [Exit.inBlock, Exit.then])
                     refine bodyPost_end (results_none rfl _ _ _) rfl ?_
                     exact ⟨rfl, hkp, hr7⟩)
              · by_cases hT : z < b
                · first
                  | (exfalso; omega)
                  | (have f1 : decide ((s : Int) < (m : Int)) = false := decide_eq_false (by omega)
                     have f2 : decide ((m : Int) < (z : Int)) = true := decide_eq_true (by omega)
                     have f3 : decide ((a : Int) < (s : Int)) = false := decide_eq_false (by omega)
                     have f4 : decide ((s : Int) < (mid : Int)) = true := decide_eq_true (by omega)
                     have f5 : decide ((mid : Int) < (z : Int)) = false := decide_eq_false (by omega)
                     have f6 : decide ((z : Int) < (b : Int)) = true := decide_eq_true (by omega)
                     have hr5 := HM.out.stay wr (fun h => hP h.1) hrw
                     clear hrw
                     have HJ5 := Lib.hid (C.out.keep _ _ HJ.out hkp)
                     have hr6 := HM.out.left0 wr (fun h => hK h.1) hr5
                     clear hr5
                     have HJ6 := Lib.hid (C.out.keep _ _ HJ.out hkp)
                     have hr7 := HM.out.right0 Hw.out wr (fun h => hP h.1) hr6
                     clear hr6
                     go_wp2
                     (try simp only [Exit.inBlock, Exit.then])
                     refine bodyPost_end (results_none rfl _ _ _) rfl ?_
                     exact ⟨rfl, hkp, hr7⟩)
                · first
                  | (exfalso; omega)
                  | (have f1 : decide ((s : Int) < (m : Int)) = false := decide_eq_false (by omega)
                     have f2 : decide ((m : Int) < (z : Int)) = true := decide_eq_true (by omega)
                     have f3 : decide ((a : Int) < (s : Int)) = false := decide_eq_false (by omega)
                     have f4 : decide ((s : Int) < (mid : Int)) = true := decide_eq_true (by omega)
                     have f5 : decide ((mid : Int) < (z : Int)) = false := decide_eq_false (by omega)
                     have f6 : decide ((z : Int) < (b : Int)) = false := decide_eq_false (by omega)
                     have hr5 := HM.out.stay wr (fun h => hP h.1) hrw
                     clear hrw
                     have HJ5 := Lib.hid (C.out.keep _ _ HJ.out hkp)
                     have hr6 := HM.out.left0 wr (fun h => hK h.1) hr5
                     clear hr5
                     have HJ6 := Lib.hid (C.out.keep _ _ HJ.out hkp)
                     have hr7 := HM.out.right0 Hw.out wr (fun h => hP h.1) hr6
                     clear hr6
                     go_wp2
                     (try simp only [Exit.inBlock, Exit.then])
                     refine bodyPost_end (results_none rfl _ _ _) rfl ?_
                     exact ⟨rfl, hkp, hr7⟩)
            · by_cases hK : a < s
              · by_cases hT : z < b
                · first
                  | (exfalso; omega)
                  | (have f1 : decide ((s : Int) < (m : Int)) = false := decide_eq_false (by omega)
                     have f2 : decide ((m : Int) < (z : Int)) = false := decide_eq_false (by omega)
                     have f3 : decide ((a : Int) < (s : Int)) = true := decide_eq_true (by omega)
                     have f4 : decide ((s : Int) < (mid : Int)) = false := decide_eq_false (by omega)
                     have f5 : decide ((mid : Int) < (z : Int)) = false := decide_eq_false (by omega)
                     have f6 : decide ((z : Int) < (b : Int)) = true := decide_eq_true (by omega)
                     have hr5 := HM.out.stay wr (fun h => hP h.1) hrw
                     clear hrw
                     have HJ5 := Lib.hid (C.out.keep _ _ HJ.out hkp)
                     have hr6 := HM.out.left0 wr (fun h => hQ h.2) hr5
                     clear hr5
                     have HJ6 := Lib.hid (C.out.keep _ _ HJ.out hkp)
                     have hr7 := HM.out.right0 Hw.out wr (fun h => hP h.1) hr6
                     clear hr6
                     go_wp2
                     (try simp only [Exit.inBlock, Exit.then])
                     refine bodyPost_end (results_none rfl _ _ _) rfl ?_
                     exact ⟨rfl, hkp, hr7⟩)
                · first
                  | (exfalso; omega)
                  | (have f1 : decide ((s : Int) < (m : Int)) = false := decide_eq_false (by omega)
                     have f2 : decide ((m : Int) < (z : Int)) = false := decide_eq_false (by omega)
                     have f3 : decide ((a : Int) < (s : Int)) = true := decide_eq_true (by omega)
                     have f4 : decide ((s : Int) < (mid : Int)) = false := decide_eq_false (by omega)
                     have f5 : decide ((mid : Int) < (z : Int)) = false := decide_eq_false (by omega)
                     have f6 : decide ((z : Int) < (b : Int)) = false := decide_eq_false (by omega)
                     have hr5 := HM.out.stay wr (fun h => hP h.1) hrw
                     clear hrw
                     have HJ5 := Lib.hid (C.out.keep _ _ HJ.out hkp)
                     have hr6 := HM.out.left0 wr (fun h => hQ h.2) hr5
                     clear hr5
                     have HJ6 := Lib.hid (C.out.keep _ _ HJ.out hkp)
                     have hr7 := HM.out.right0 Hw.out wr (fun h => hP h.1) hr6
                     clear hr6
                     go_wp2
                     (try simp only [Exit.inBlock, Exit.then])
                     refine bodyPost_end (results_none rfl _ _ _) rfl ?_
                     exact ⟨rfl, hkp, hr7⟩)
              · by_cases hT : z < b
                · first
                  | (exfalso; omega)
                  | (have f1 : decide ((s : Int) < (m : Int)) = false := decide_eq_false (by omega)
                     have f2 : decide ((m : Int) < (z : Int)) = false := decide_eq_false (by omega)
                     have f3 : decide ((a : Int) < (s : Int)) = false := decide_eq_false (by omega)
                     have f4 : decide ((s : Int) < (mid : Int)) = false := decide_eq_false (by omega)
                     have f5 : decide ((mid : Int) < (z : Int)) = false := decide_eq_false (by omega)
                     have f6 : decide ((z : Int) < (b : Int)) = true := decide_eq_true (by omega)
                     have hr5 := HM.out.stay wr (fun h => hP h.1) hrw
                     clear hrw
                     have HJ5 := Lib.hid (C.out.keep _ _ HJ.out hkp)
                     have hr6 := HM.out.left0 wr (fun h => hK h.1) hr5
                     clear hr5
                     have HJ6 := Lib.hid (C.out.keep _ _ HJ.out hkp)
                     have hr7 := HM.out.right0 Hw.out wr (fun h => hP h.1) hr6
                     clear hr6
                     go_wp2
                     (try simp only [Exit.inBlock, Exit.then])
                     refine bodyPost_end (results_none rfl _ _ _) rfl ?_
                     exact ⟨rfl, hkp, hr7⟩)
                · first
                  | (exfalso; omega)
                  | (have f1 : decide ((s : Int) < (m : Int)) = false := decide_eq_false (by omega)
                     have f2 : decide ((m : Int) < (z : Int)) = false := decide_eq_false (by omega)
                     have f3 : decide ((a : Int) < (s : Int)) = false := decide_eq_false (by omega)
                     have f4 : decide ((s : Int) < (mid : Int)) = false := decide_eq_false (by omega)
                     have f5 : decide ((mid : Int) < (z : Int)) = false := decide_eq_false (by omega)
                     have f6 : decide ((z : Int) < (b : Int)) = false := decide_eq_false (by omega)
                     have hr5 := HM.out.stay wr (fun h => hP h.1) hrw
                     clear hrw
                     have HJ5 := Lib.hid (C.out.keep _ _ HJ.out hkp)
                     have hr6 := HM.out.left0 wr (fun h => hK h.1) hr5
                     clear hr5
                     have HJ6 := Lib.hid (C.out.keep _ _ HJ.out hkp)
                     have hr7 := HM.out.right0 Hw.out wr (fun h => hP h.1) hr6
                     clear hr6
                     go_wp2
                     (try simp only [Exit.inBlock, Exit.then])
                     refine bodyPost_end (results_none rfl _ _ _) rfl ?_
                     exact ⟨rfl, hkp, hr7⟩)
    · have hcl : True := trivial
      have hgt : decide ((mid : Int) < (m : Int)) = false := decide_eq_false (by omega)
      have Hmono := Lib.hid (mono_both Hw.out hSI1 hSI2 (by omega) (lo := a) (hi := m) (pp := pp) (by omega) (by omega) (fun c h1 h2 => by omega))
      have Hbound := Lib.hid (show ∀ s, a ≤ s → s ≤ m → ∃ z, s + z = mid + m ∧ s ≤ mid ∧ a ≤ s ∧ s ≤ m ∧ z ≤ b ∧ m ≤ z from fun s h1 h2 => ⟨mid + m - s, by omega, by omega, by omega, by omega, by omega, by omega⟩)
      have Hcut := Lib.hid (show ∀ s z, s + z = mid + m → a ≤ s → s ≤ m → s ≤ mid → a ≤ s → s ≤ m → z ≤ b → m ≤ z → Bs (fun k => at2 (fun u v => !lt u v) xs[pp - k]? xs[k]?) a m s s → ∃ L1 L2 R1 R2, Mid lt S A L R a m b mid s z L1 L2 R1 R2 from fun s z h1 h2 h3 h4 h5 h6 h7 h8 hb =>
        mid_of Hw.out hL hR HA.out lL lR ham hmb hmid gL gR (by omega) h1 h2 h3 h4 h5 h6 h7 h8 hb.low hb.high (.inr ⟨rfl, rfl⟩) hS)
      clear hSI1 hSI2
      clear hw hL hR hS hJ hrow ha hm hb hxs hxl e1 e2 gL gR lL lR hmid hpp ih hL1 hR1 hL0 hR0 hcl
      go_enter Tryz.func145, Tryz.ntmps145
      go_wp2
      go_loopw [20, 21] (fun vi vj wr => ∃ i j : Nat, a ≤ i ∧ i ≤ j ∧ j ≤ m ∧ vi = .int .i64 (i : Nat) ∧ vj = .int .i64 (j : Nat) ∧ Ext w wr ∧ Hid (Bs (fun k => at2 (fun u v => !lt u v) xs[pp - k]? xs[k]?) a m i j)) (fun vi vj _ => (intOf vj).toNat - (intOf vi).toNat)
      case atStart => exact ⟨a, m, Nat.le_refl _, by omega, Nat.le_refl _, by go_num, by go_num, Ext.refl _, Lib.hid (Bs.start (by omega))⟩
      case round =>
        obtain ⟨i, j, hmi, hij, hjb, rfl, rfl, hxr, hbs⟩ := hrel
        by_cases hlt : i < j
        · have d2 : decide ((i : Int) < (j : Int)) = true := decide_eq_true (by omega)
          obtain ⟨h, hh⟩ : ∃ h, h = (i + j) / 2 := ⟨_, rfl⟩
          have eh : ((i : Int) + (j : Int)) / 2 = ((h : Nat) : Int) := by omega
          have hh1 : i ≤ h := by omega
          have hh2 : h < j := by omega
          obtain ⟨X, hX, sX⟩ := HS1.out h (by omega) (by omega)
          obtain ⟨Y, hY, sY⟩ := HS2.out (pp - h) (by omega) (by omega)
          have hrw := hrow'.ext hxr
          have HP : ∀ b, lt Y X = b → at2 (fun u v => !lt u v) xs[pp - h]? xs[h]? = !b := fun b hb => by rw [hX, hY]; simp only [at2, hb]
          have hph : pp - h < n := by omega
          have hhp : h ≤ pp := by omega
          clear hh
          obtain ⟨bb, hbb0⟩ : ∃ bb, lt Y X = bb := ⟨_, rfl⟩
          have Hp := Lib.hid (HP _ hbb0)
          have hbb := Lib.hid hbb0
          have HJr := Lib.hid (C.out.keep _ _ HJ.out (Kp.of_ext hxr))
          clear hbb0 HP
          cases bb
          case true =>
            go_wp2_with fail
            refine wp_drawn (by kernel_rfl) (fun i => match i with | 0 => Ty.is (fv) | 1 => Ty.is (.slice (some ⟨g, 0, none⟩) n cap) | 2 => Ty.is (.int .i64 ((pp : Nat) : Int)) | 3 => Ty.is (.int .i64 ((h : Nat) : Int)) | 4 => Ty.is (.int .i64 ((pp - h : Nat) : Int)) | 5 => TCells (pairEl.E Y) | 6 => Ty.is (.agg (pairEl.E Y).toArray) | 7 => Ty.is (.slice (some ⟨g, 0, none⟩) n cap) | 8 => Ty.is (.int .i64 ((h : Nat) : Int)) | 9 => TCells (pairEl.E X) | 10 => Ty.is (.agg (pairEl.E X).toArray) | 11 => TLt true | 12 => Ty.is (.bool true) | 13 => Ty.is (.bool false) | _ => Ty.any) (by kernel_rfl) rfl ?_
            intro v
            refine ⟨?_, ?_, ?_, ?_, ?_, ?_, ?_, ?_, ?_, ?_, ?_, ?_, ?_, ?_, ?_⟩
            · intro wq hq hd
              refine ob_plain rfl ?_
              exact yld_move (.tmp 4) rfl rfl rfl
            · intro wq hq hd
              refine ob_plain rfl ?_
              exact yld_move (.tmp 0) rfl rfl rfl
            · intro wq hq hd
              refine ob_plain rfl ?_
              exact yld_move (.tmp 22) rfl rfl rfl
            · intro wq hq hd
              refine ob_plain rfl ?_
              exact yld_move (.tmp 23) rfl rfl rfl
            · intro wq hq hd
              obtain ⟨h0, h1, -⟩ := hd
              change v 2 = _ at h0
              change v 3 = _ at h1
              refine ob_plain rfl ?_
              exact yld_binInt .sub 3 3 (.tmp 160) (.tmp 161) rfl _ _ h0 h1 (bin_sub _ _ _ _ (by omega) (by omega) (by omega)) rfl
            · intro wq hq hd
              obtain ⟨h0, h1, -⟩ := hd
              change v 1 = _ at h0
              change v 4 = _ at h1
              refine ob_plain rfl ?_
              exact yld_indexRw (.tmp 159) (.tmp 162) rfl h0 (pp - h) h1 (hrw.ext hq) hY
            · intro wq hq hd
              obtain ⟨h0, -⟩ := hd
              change (TCells (pairEl.E Y)).p (v 5) wq at h0
              refine ob_plain rfl ?_
              exact yld_loadRw (.tmp 163) rfl h0
            · intro wq hq hd
              refine ob_plain rfl ?_
              exact yld_move (.tmp 0) rfl rfl rfl
            · intro wq hq hd
              refine ob_plain rfl ?_
              exact yld_move (.tmp 23) rfl rfl rfl
            · intro wq hq hd
              obtain ⟨h0, h1, -⟩ := hd
              change v 7 = _ at h0
              change v 8 = _ at h1
              refine ob_plain rfl ?_
              exact yld_indexRw (.tmp 165) (.tmp 166) rfl h0 (h) h1 (hrw.ext hq) hX
            · intro wq hq hd
              obtain ⟨h0, -⟩ := hd
              change (TCells (pairEl.E X)).p (v 9) wq at h0
              refine ob_plain rfl ?_
              exact yld_loadRw (.tmp 167) rfl h0
            · intro wq hq hd
              obtain ⟨h0, h1, h2, -⟩ := hd
              change v 0 = _ at h0
              change v 6 = _ at h1
              change v 10 = _ at h2
              refine ob_plain rfl ?_
              exact hbb.out ▸ yld_cmp C.out (.tmp 158) (.tmp 164) (.tmp 168) _ rfl h0 h1 h2 sY sX (C.out.keep _ _ HJr.out (Kp.of_ext hq))
            · intro wq hq hd
              obtain ⟨h0, -⟩ := hd
              change (TLt true).p (v 11) wq at h0
              refine ob_plain rfl ?_
              exact yld_neg _ _ (.tmp 169) _ rfl _ h0 rfl
            · intro wq hq hd
              obtain ⟨h0, -⟩ := hd
              change v 12 = _ at h0
              refine ob_plain rfl ?_
              exact yld_not (.tmp 170) 4 rfl _ h0 rfl
            · intro wq hq hT
              have k13 := hT 13 (by decide)
              change v 13 = _ at k13
              clear hT
              simp only [List.drop_succ_cons, List.drop_zero, putE, setsE, List.set_cons_succ, List.set_cons_zero, Nat.reduceAdd]
              rw [k13]
              have hbs2 := Lib.hid (hbs.out.down Hmono.out (by omega) (by omega) Hp.out)
              have hxr2 := hxr.trans hq
              clear hY hX hrw hbs hxr Hp
              go_wp2
              go_roundw
              case rel => exact ⟨i, h, by omega, by omega, by omega, by go_num, by go_num, hxr2, hbs2⟩
              case measure => simp [intOf]; omega
          case false =>
            go_wp2_with fail
            refine wp_drawn (by kernel_rfl) (fun i => match i with | 0 => Ty.is (fv) | 1 => Ty.is (.slice (some ⟨g, 0, none⟩) n cap) | 2 => Ty.is (.int .i64 ((pp : Nat) : Int)) | 3 => Ty.is (.int .i64 ((h : Nat) : Int)) | 4 => Ty.is (.int .i64 ((pp - h : Nat) : Int)) | 5 => TCells (pairEl.E Y) | 6 => Ty.is (.agg (pairEl.E Y).toArray) | 7 => Ty.is (.slice (some ⟨g, 0, none⟩) n cap) | 8 => Ty.is (.int .i64 ((h : Nat) : Int)) | 9 => TCells (pairEl.E X) | 10 => Ty.is (.agg (pairEl.E X).toArray) | 11 => TLt false | 12 => Ty.is (.bool false) | 13 => Ty.is (.bool true) | _ => Ty.any) (by kernel_rfl) rfl ?_
            intro v
            refine ⟨?_, ?_, ?_, ?_, ?_, ?_, ?_, ?_, ?_, ?_, ?_, ?_, ?_, ?_, ?_⟩
            · intro wq hq hd
              refine ob_plain rfl ?_
              exact yld_move (.tmp 4) rfl rfl rfl
            · intro wq hq hd
              refine ob_plain rfl ?_
              exact yld_move (.tmp 0) rfl rfl rfl
            · intro wq hq hd
              refine ob_plain rfl ?_
              exact yld_move (.tmp 22) rfl rfl rfl
            · intro wq hq hd
              refine ob_plain rfl ?_
              exact yld_move (.tmp 23) rfl rfl rfl
            · intro wq hq hd
              obtain ⟨h0, h1, -⟩ := hd
              change v 2 = _ at h0
              change v 3 = _ at h1
              refine ob_plain rfl ?_
              exact yld_binInt .sub 3 3 (.tmp 160) (.tmp 161) rfl _ _ h0 h1 (bin_sub _ _ _ _ (by omega) (by omega) (by omega)) rfl
            · intro wq hq hd
              obtain ⟨h0, h1, -⟩ := hd
              change v 1 = _ at h0
              change v 4 = _ at h1
              refine ob_plain rfl ?_
              exact yld_indexRw (.tmp 159) (.tmp 162) rfl h0 (pp - h) h1 (hrw.ext hq) hY
            · intro wq hq hd
              obtain ⟨h0, -⟩ := hd
              change (TCells (pairEl.E Y)).p (v 5) wq at h0
              refine ob_plain rfl ?_
              exact yld_loadRw (.tmp 163) rfl h0
            · intro wq hq hd
              refine ob_plain rfl ?_
              exact yld_move (.tmp 0) rfl rfl rfl
            · intro wq hq hd
              refine ob_plain rfl ?_
              exact yld_move (.tmp 23) rfl rfl rfl
            · intro wq hq hd
              obtain ⟨h0, h1, -⟩ := hd
              change v 7 = _ at h0
              change v 8 = _ at h1
              refine ob_plain rfl ?_
              exact yld_indexRw (.tmp 165) (.tmp 166) rfl h0 (h) h1 (hrw.ext hq) hX
            · intro wq hq hd
              obtain ⟨h0, -⟩ := hd
              change (TCells (pairEl.E X)).p (v 9) wq at h0
              refine ob_plain rfl ?_
              exact yld_loadRw (.tmp 167) rfl h0
            · intro wq hq hd
              obtain ⟨h0, h1, h2, -⟩ := hd
              change v 0 = _ at h0
              change v 6 = _ at h1
              change v 10 = _ at h2
              refine ob_plain rfl ?_
              exact hbb.out ▸ yld_cmp C.out (.tmp 158) (.tmp 164) (.tmp 168) _ rfl h0 h1 h2 sY sX (C.out.keep _ _ HJr.out (Kp.of_ext hq))
            · intro wq hq hd
              obtain ⟨h0, -⟩ := hd
              change (TLt false).p (v 11) wq at h0
              refine ob_plain rfl ?_
              exact yld_neg _ _ (.tmp 169) _ rfl _ h0 rfl
            · intro wq hq hd
              obtain ⟨h0, -⟩ := hd
              change v 12 = _ at h0
              refine ob_plain rfl ?_
              exact yld_not (.tmp 170) 4 rfl _ h0 rfl
            · intro wq hq hT
              have k13 := hT 13 (by decide)
              change v 13 = _ at k13
              clear hT
              simp only [List.drop_succ_cons, List.drop_zero, putE, setsE, List.set_cons_succ, List.set_cons_zero, Nat.reduceAdd]
              rw [k13]
              have hbs2 := Lib.hid (hbs.out.up Hmono.out (by omega) (by omega) Hp.out)
              have hxr2 := hxr.trans hq
              clear hY hX hrw hbs hxr Hp
              go_wp2
              go_roundw
              case rel => exact ⟨h + 1, j, by omega, by omega, by omega, by go_num, by go_num, hxr2, hbs2⟩
              case measure => simp [intOf]; omega
        · obtain rfl : i = j := by omega
          have d2 : decide ((i : Int) < (i : Int)) = false := decide_eq_false (by omega)
          have hb9 := hbs.out
          obtain ⟨s, hs⟩ : ∃ s, i = s := ⟨_, rfl⟩
          rw [hs] at hb9 hmi hjb d2 ⊢
          obtain ⟨z, hz, hsmid, has, hsm, hzb, hmz⟩ := Hbound.out s hmi hjb
          have ez : (mid : Int) + (m : Int) - (s : Int) = ((z : Nat) : Int) := by omega
          obtain ⟨L1, L2, R1, R2, hM⟩ := Hcut.out s z hz hmi hjb hsmid has hsm hzb hmz hb9
          have HM := Lib.hid hM
          have hsz : s + z = mid + m := hz
          have hrw : Rw g cap n wr (A ++ L ++ R ++ D) := by rw [Hxs.out]; exact hrow'.ext hxr
          have hkp := Kp.of_ext (g := g) hxr
          clear hbs hb9 hM hxr hs hrow' Hcut Hbound Hmono HS1 HS2 hz
          by_cases hP : s < m
          · by_cases hQ : s < mid
            · by_cases hK : a < s
              · by_cases hT : z < b
                · first
                  | (exfalso; omega)
                  | (have f1 : decide ((s : Int) < (m : Int)) = true := decide_eq_true (by omega)
                     have f2 : decide ((m : Int) < (z : Int)) = true := decide_eq_true (by omega)
                     have f3 : decide ((a : Int) < (s : Int)) = true := decide_eq_true (by omega)
                     have f4 : decide ((s : Int) < (mid : Int)) = true := decide_eq_true (by omega)
                     have f5 : decide ((mid : Int) < (z : Int)) = true := decide_eq_true (by omega)
                     have f6 : decide ((z : Int) < (b : Int)) = true := decide_eq_true (by omega)
                     have Hc := Lib.hid (HM.out.rotate fv wr hn hP hQ hrw)
                     clear hrw
                     go_wp2_with fail
                     refine (Hc.out).mono ?_
                     rintro e5 w5 ⟨rfl, hk5, hr5⟩
                     replace hkp := hkp.trans hk5
                     clear hk5 Hc
                     have HJ5 := Lib.hid (C.out.keep _ _ HJ.out hkp)
                     have Hc := Lib.hid (HM.out.left Hih.out w5 hn hN hmid2 hK hQ HJ5.out hr5)
                     clear hr5
                     go_wp2_with fail
                     refine (Hc.out).mono ?_
                     rintro e6 w6 ⟨rfl, hk6, hr6⟩
                     replace hkp := hkp.trans hk6
                     clear hk6 Hc
                     have HJ6 := Lib.hid (C.out.keep _ _ HJ.out hkp)
                     have Hc := Lib.hid (HM.out.right Hw.out Hih.out w6 hn hN hmid1 hP hT HJ6.out hr6)
                     clear hr6
                     go_wp2_with fail
                     refine (Hc.out).mono ?_
                     rintro e7 w7 ⟨rfl, hk7, hr7⟩
                     replace hkp := hkp.trans hk7
                     clear hk7 Hc
                     go_wp2
                     (try simp only [Exit.inBlock, Exit.then])
                     refine bodyPost_end (results_none rfl _ _ _) rfl ?_
                     exact ⟨rfl, hkp, hr7⟩)
                · first
                  | (exfalso; omega)
                  | (have f1 : decide ((s : Int) < (m : Int)) = true := decide_eq_true (by omega)
                     have f2 : decide ((m : Int) < (z : Int)) = true := decide_eq_true (by omega)
                     have f3 : decide ((a : Int) < (s : Int)) = true := decide_eq_true (by omega)
                     have f4 : decide ((s : Int) < (mid : Int)) = true := decide_eq_true (by omega)
                     have f5 : decide ((mid : Int) < (z : Int)) = true := decide_eq_true (by omega)
                     have f6 : decide ((z : Int) < (b : Int)) = false := decide_eq_false (by omega)
                     have Hc := Lib.hid (HM.out.rotate fv wr hn hP hQ hrw)
                     clear hrw
                     go_wp2_with fail
                     refine (Hc.out).mono ?_
                     rintro e5 w5 ⟨rfl, hk5, hr5⟩
                     replace hkp := hkp.trans hk5
                     clear hk5 Hc
                     have HJ5 := Lib.hid (C.out.keep _ _ HJ.out hkp)
                     have Hc := Lib.hid (HM.out.left Hih.out w5 hn hN hmid2 hK hQ HJ5.out hr5)
                     clear hr5
                     go_wp2_with fail
                     refine (Hc.out).mono ?_
                     rintro e6 w6 ⟨rfl, hk6, hr6⟩
                     replace hkp := hkp.trans hk6
                     clear hk6 Hc
                     have HJ6 := Lib.hid (C.out.keep _ _ HJ.out hkp)
                     have hr7 := HM.out.right0 Hw.out w6 (fun h => hT h.2) hr6
                     clear hr6
                     go_wp2
                     (try simp only [Exit.inBlock, Exit.then])
                     refine bodyPost_end (results_none rfl _ _ _) rfl ?_
                     exact ⟨rfl, hkp, hr7⟩)
              · by_cases hT : z < b
                · first
                  | (exfalso; omega)
                  | (have f1 : decide ((s : Int) < (m : Int)) = true := decide_eq_true (by omega)
                     have f2 : decide ((m : Int) < (z : Int)) = true := decide_eq_true (by omega)
                     have f3 : decide ((a : Int) < (s : Int)) = false := decide_eq_false (by omega)
                     have f4 : decide ((s : Int) < (mid : Int)) = true := decide_eq_true (by omega)
                     have f5 : decide ((mid : Int) < (z : Int)) = true := decide_eq_true (by omega)
                     have f6 : decide ((z : Int) < (b : Int)) = true := decide_eq_true (by omega)
                     have Hc := Lib.hid (HM.out.rotate fv wr hn hP hQ hrw)
                     clear hrw
                     go_wp2_with fail
                     refine (Hc.out).mono ?_
                     rintro e5 w5 ⟨rfl, hk5, hr5⟩
                     replace hkp := hkp.trans hk5
                     clear hk5 Hc
                     have HJ5 := Lib.hid (C.out.keep _ _ HJ.out hkp)
                     have hr6 := HM.out.left0 w5 (fun h => hK h.1) hr5
                     clear hr5
                     have HJ6 := Lib.hid (C.out.keep _ _ HJ.out hkp)
                     have Hc := Lib.hid (HM.out.right Hw.out Hih.out w5 hn hN hmid1 hP hT HJ6.out hr6)
                     clear hr6
                     go_wp2_with fail
                     refine (Hc.out).mono ?_
                     rintro e7 w7 ⟨rfl, hk7, hr7⟩
                     replace hkp := hkp.trans hk7
                     clear hk7 Hc
                     go_wp2
                     (try simp only [Exit.inBlock, Exit.then])
                     refine bodyPost_end (results_none rfl _ _ _) rfl ?_
                     exact ⟨rfl, hkp, hr7⟩)
                · first
                  | (exfalso; omega)
                  | (have f1 : decide ((s : Int) < (m : Int)) = true := decide_eq_true (by omega)
                     have f2 : decide ((m : Int) < (z : Int)) = true := decide_eq_true (by omega)
                     have f3 : decide ((a : Int) < (s : Int)) = false := decide_eq_false (by omega)
                     have f4 : decide ((s : Int) < (mid : Int)) = true := decide_eq_true (by omega)
                     have f5 : decide ((mid : Int) < (z : Int)) = true := decide_eq_true (by omega)
                     have f6 : decide ((z : Int) < (b : Int)) = false := decide_eq_false (by omega)
                     have Hc := Lib.hid (HM.out.rotate fv wr hn hP hQ hrw)
                     clear hrw
                     go_wp2_with fail
                     refine (Hc.out).mono ?_
                     rintro e5 w5 ⟨rfl, hk5, hr5⟩
                     replace hkp := hkp.trans hk5
                     clear hk5 Hc
                     have HJ5 := Lib.hid (C.out.keep _ _ HJ.out hkp)
                     have hr6 := HM.out.left0 w5 (fun h => hK h.1) hr5
                     clear hr5
                     have HJ6 := Lib.hid (C.out.keep _ _ HJ.out hkp)
                     have hr7 := HM.out.right0 Hw.out w5 (fun h => hT h.2) hr6
                     clear hr6
                     go_wp2
                     (try simp only [Exit.inBlock, Exit.then])
                     refine bodyPost_end (results_none rfl _ _ _) rfl ?_
                     exact ⟨rfl, hkp, hr7⟩)
            · by_cases hK : a < s
              · by_cases hT : z < b
                · first
                  | (exfalso; omega)
                  | (have f1 : decide ((s : Int) < (m : Int)) = true := decide_eq_true (by omega)
                     have f2 : decide ((m : Int) < (z : Int)) = false := decide_eq_false (by omega)
                     have f3 : decide ((a : Int) < (s : Int)) = true := decide_eq_true (by omega)
                     have f4 : decide ((s : Int) < (mid : Int)) = false := decide_eq_false (by omega)
                     have f5 : decide ((mid : Int) < (z : Int)) = true := decide_eq_true (by omega)
                     have f6 : decide ((z : Int) < (b : Int)) = true := decide_eq_true (by omega)
                     have hr5 := HM.out.stay wr (fun h => hQ h.2) hrw
                     clear hrw
                     have HJ5 := Lib.hid (C.out.keep _ _ HJ.out hkp)
                     have hr6 := HM.out.left0 wr (fun h => hQ h.2) hr5
                     clear hr5
                     have HJ6 := Lib.hid (C.out.keep _ _ HJ.out hkp)
                     have Hc := Lib.hid (HM.out.right Hw.out Hih.out wr hn hN hmid1 hP hT HJ6.out hr6)
                     clear hr6
                     go_wp2_with fail
                     refine (Hc.out).mono ?_
                     rintro e7 w7 ⟨rfl, hk7, hr7⟩
                     replace hkp := hkp.trans hk7
                     clear hk7 Hc
                     go_wp2
                     (try simp only [Exit.inBlock, Exit.then])
                     refine bodyPost_end (results_none rfl _ _ _) rfl ?_
                     exact ⟨rfl, hkp, hr7⟩)
                · first
                  | (exfalso; omega)
                  | (have f1 : decide ((s : Int) < (m : Int)) = true := decide_eq_true (by omega)
                     have f2 : decide ((m : Int) < (z : Int)) = false := decide_eq_false (by omega)
                     have f3 : decide ((a : Int) < (s : Int)) = true := decide_eq_true (by omega)
                     have f4 : decide ((s : Int) < (mid : Int)) = false := decide_eq_false (by omega)
                     have f5 : decide ((mid : Int) < (z : Int)) = true := decide_eq_true (by omega)
                     have f6 : decide ((z : Int) < (b : Int)) = false := decide_eq_false (by omega)
                     have hr5 := HM.out.stay wr (fun h => hQ h.2) hrw
                     clear hrw
                     have HJ5 := Lib.hid (C.out.keep _ _ HJ.out hkp)
                     have hr6 := HM.out.left0 wr (fun h => hQ h.2) hr5
                     clear hr5
                     have HJ6 := Lib.hid (C.out.keep _ _ HJ.out hkp)
                     have hr7 := HM.out.right0 Hw.out wr (fun h => hT h.2) hr6
                     clear hr6
                     go_wp2
                     (try simp only [Exit.inBlock, Exit.then])
                     refine bodyPost_end (results_none rfl _ _ _) rfl ?_
                     exact ⟨rfl, hkp, hr7⟩)
              · by_cases hT : z < b
                · first
                  | (exfalso; omega)
                  | (have f1 : decide ((s : Int) < (m : Int)) = true := decide_eq_true (by omega)
                     have f2 : decide ((m : Int) < (z : Int)) = false := decide_eq_false (by omega)
                     have f3 : decide ((a : Int) < (s : Int)) = false := decide_eq_false (by omega)
                     have f4 : decide ((s : Int) < (mid : Int)) = false := decide_eq_false (by omega)
                     have f5 : decide ((mid : Int) < (z : Int)) = true := decide_eq_true (by omega)
                     have f6 : decide ((z : Int) < (b : Int)) = true := decide_eq_true (by omega)
                     have hr5 := HM.out.stay wr (fun h => hQ h.2) hrw
                     clear hrw
                     have HJ5 := Lib.hid (C.out.keep _ _ HJ.out hkp)
                     have hr6 := HM.out.left0 wr (fun h => hK h.1) hr5
                     clear hr5
                     have HJ6 := Lib.hid (C.out.keep _ _ HJ.out hkp)
                     have Hc := Lib.hid (HM.out.right Hw.out Hih.out wr hn hN hmid1 hP hT HJ6.out hr6)
                     clear hr6
                     go_wp2_with fail
                     refine (Hc.out).mono ?_
                     rintro e7 w7 ⟨rfl, hk7, hr7⟩
                     replace hkp := hkp.trans hk7
                     clear hk7 Hc
                     go_wp2
                     (try simp only [Exit.inBlock, Exit.then])
                     refine bodyPost_end (results_none rfl _ _ _) rfl ?_
                     exact ⟨rfl, hkp, hr7⟩)
                · first
                  | (exfalso; omega)
                  | (have f1 : decide ((s : Int) < (m : Int)) = true := decide_eq_true (by omega)
                     have f2 : decide ((m : Int) < (z : Int)) = false := decide_eq_false (by omega)
                     have f3 : decide ((a : Int) < (s : Int)) = false := decide_eq_false (by omega)
                     have f4 : decide ((s : Int) < (mid : Int)) = false := decide_eq_false (by omega)
                     have f5 : decide ((mid : Int) < (z : Int)) = true := decide_eq_true (by omega)
                     have f6 : decide ((z : Int) < (b : Int)) = false := decide_eq_false (by omega)
                     have hr5 := HM.out.stay wr (fun h => hQ h.2) hrw
                     clear hrw
                     have HJ5 := Lib.hid (C.out.keep _ _ HJ.out hkp)
                     have hr6 := HM.out.left0 wr (fun h => hK h.1) hr5
                     clear hr5
                     have HJ6 := Lib.hid (C.out.keep _ _ HJ.out hkp)
                     have hr7 := HM.out.right0 Hw.out wr (fun h => hT h.2) hr6
                     clear hr6
                     go_wp2
                     (try simp only [Exit.inBlock, Exit.then])
                     refine bodyPost_end (results_none rfl _ _ _) rfl ?_
                     exact ⟨rfl, hkp, hr7⟩)
          · by_cases hQ : s < mid
            · by_cases hK : a < s
              · by_cases hT : z < b
                · first
                  | (exfalso; omega)
                  | (have f1 : decide ((s : Int) < (m : Int)) = false := decide_eq_false (by omega)
                     have f2 : decide ((m : Int) < (z : Int)) = true := decide_eq_true (by omega)
                     have f3 : decide ((a : Int) < (s : Int)) = true := decide_eq_true (by omega)
                     have f4 : decide ((s : Int) < (mid : Int)) = true := decide_eq_true (by omega)
                     have f5 : decide ((mid : Int) < (z : Int)) = false := decide_eq_false (by omega)
                     have f6 : decide ((z : Int) < (b : Int)) = true := decide_eq_true (by omega)
                     have hr5 := HM.out.stay wr (fun h => hP h.1) hrw
                     clear hrw
                     have HJ5 := Lib.hid (C.out.keep _ _ HJ.out hkp)
                     have Hc := Lib.hid (HM.out.left Hih.out wr hn hN hmid2 hK hQ HJ5.out hr5)
                     clear hr5
                     go_wp2_with fail
                     refine (Hc.out).mono ?_
                     rintro e6 w6 ⟨rfl, hk6, hr6⟩
                     replace hkp := hkp.trans hk6
                     clear hk6 Hc
                     have HJ6 := Lib.hid (C.out.keep _ _ HJ.out hkp)
                     have hr7 := HM.out.right0 Hw.out w6 (fun h => hP h.1) hr6
                     clear hr6
                     go_wp2
                     (try simp only [Exit.inBlock, Exit.then])
                     refine bodyPost_end (results_none rfl _ _ _) rfl ?_
                     exact ⟨rfl, hkp, hr7⟩)
                · first
                  | (exfalso; omega)
                  | (have f1 : decide ((s : Int) < (m : Int)) = false := decide_eq_false (by omega)
                     have f2 : decide ((m : Int) < (z : Int)) = true := decide_eq_true (by omega)
                     have f3 : decide ((a : Int) < (s : Int)) = true := decide_eq_true (by omega)
                     have f4 : decide ((s : Int) < (mid : Int)) = true := decide_eq_true (by omega)
                     have f5 : decide ((mid : Int) < (z : Int)) = false := decide_eq_false (by omega)
                     have f6 : decide ((z : Int) < (b : Int)) = false := decide_eq_false (by omega)
                     have hr5 := HM.out.stay wr (fun h => hP h.1) hrw
                     clear hrw
                     have HJ5 := Lib.hid (C.out.keep _ _ HJ.out hkp)
                     have Hc := Lib.hid (HM.out.left Hih.out wr hn hN hmid2 hK hQ HJ5.out hr5)
                     clear hr5
                     go_wp2_with fail
                     refine (Hc.out).mono ?_
                     rintro e6 w6 ⟨rfl, hk6, hr6⟩
                     replace hkp := hkp.trans hk6
                     clear hk6 Hc
                     have HJ6 := Lib.hid (C.out.keep _ _ HJ.out hkp)
                     have hr7 := HM.out.right0 Hw.out w6 (fun h => hP h.1) hr6
                     clear hr6
                     go_wp2
                     (try simp only [Exit.inBlock, Exit.then])
                     refine bodyPost_end (results_none rfl _ _ _) rfl ?_
                     exact ⟨rfl, hkp, hr7⟩)
              · by_cases hT : z < b
                · first
                  | (exfalso; omega)
                  | (have f1 : decide ((s : Int) < (m : Int)) = false := decide_eq_false (by omega)
                     have f2 : decide ((m : Int) < (z : Int)) = true := decide_eq_true (by omega)
                     have f3 : decide ((a : Int) < (s : Int)) = false := decide_eq_false (by omega)
                     have f4 : decide ((s : Int) < (mid : Int)) = true := decide_eq_true (by omega)
                     have f5 : decide ((mid : Int) < (z : Int)) = false := decide_eq_false (by omega)
                     have f6 : decide ((z : Int) < (b : Int)) = true := decide_eq_true (by omega)
                     have hr5 := HM.out.stay wr (fun h => hP h.1) hrw
                     clear hrw
                     have HJ5 := Lib.hid (C.out.keep _ _ HJ.out hkp)
                     have hr6 := HM.out.left0 wr (fun h => hK h.1) hr5
                     clear hr5
                     have HJ6 := Lib.hid (C.out.keep _ _ HJ.out hkp)
                     have hr7 := HM.out.right0 Hw.out wr (fun h => hP h.1) hr6
                     clear hr6
                     go_wp2
                     (try simp only [Exit.inBlock, Exit.then])
                     refine bodyPost_end (results_none rfl _ _ _) rfl ?_
                     exact ⟨rfl, hkp, hr7⟩)
                · first
                  | (exfalso; omega)
                  | (have f1 : decide ((s : Int) < (m : Int)) = false := decide_eq_false (by omega)
                     have f2 : decide ((m : Int) < (z : Int)) = true := decide_eq_true (by omega)
                     have f3 : decide ((a : Int) < (s : Int)) = false := decide_eq_false (by omega)
                     have f4 : decide ((s : Int) < (mid : Int)) = true := decide_eq_true (by omega)
                     have f5 : decide ((mid : Int) < (z : Int)) = false := decide_eq_false (by omega)
                     have f6 : decide ((z : Int) < (b : Int)) = false := decide_eq_false (by omega)
                     have hr5 := HM.out.stay wr (fun h => hP h.1) hrw
                     clear hrw
                     have HJ5 := Lib.hid (C.out.keep _ _ HJ.out hkp)
                     have hr6 := HM.out.left0 wr (fun h => hK h.1) hr5
                     clear hr5
                     have HJ6 := Lib.hid (C.out.keep _ _ HJ.out hkp)
                     have hr7 := HM.out.right0 Hw.out wr (fun h => hP h.1) hr6
                     clear hr6
                     go_wp2
                     (try simp only [Exit.inBlock, Exit.then])
                     refine bodyPost_end (results_none rfl _ _ _) rfl ?_
                     exact ⟨rfl, hkp, hr7⟩)
            · by_cases hK : a < s
              · by_cases hT : z < b
                · first
                  | (exfalso; omega)
                  | (have f1 : decide ((s : Int) < (m : Int)) = false := decide_eq_false (by omega)
                     have f2 : decide ((m : Int) < (z : Int)) = false := decide_eq_false (by omega)
                     have f3 : decide ((a : Int) < (s : Int)) = true := decide_eq_true (by omega)
                     have f4 : decide ((s : Int) < (mid : Int)) = false := decide_eq_false (by omega)
                     have f5 : decide ((mid : Int) < (z : Int)) = false := decide_eq_false (by omega)
                     have f6 : decide ((z : Int) < (b : Int)) = true := decide_eq_true (by omega)
                     have hr5 := HM.out.stay wr (fun h => hP h.1) hrw
                     clear hrw
                     have HJ5 := Lib.hid (C.out.keep _ _ HJ.out hkp)
                     have hr6 := HM.out.left0 wr (fun h => hQ h.2) hr5
                     clear hr5
                     have HJ6 := Lib.hid (C.out.keep _ _ HJ.out hkp)
                     have hr7 := HM.out.right0 Hw.out wr (fun h => hP h.1) hr6
                     clear hr6
                     go_wp2
                     (try simp only [Exit.inBlock, Exit.then])
                     refine bodyPost_end (results_none rfl _ _ _) rfl ?_
                     exact ⟨rfl, hkp, hr7⟩)
                · first
                  | (exfalso; omega)
                  | (have f1 : decide ((s : Int) < (m : Int)) = false := decide_eq_false (by omega)
                     have f2 : decide ((m : Int) < (z : Int)) = false := decide_eq_false (by omega)
                     have f3 : decide ((a : Int) < (s : Int)) = true := decide_eq_true (by omega)
                     have f4 : decide ((s : Int) < (mid : Int)) = false := decide_eq_false (by omega)
                     have f5 : decide ((mid : Int) < (z : Int)) = false := decide_eq_false (by omega)
                     have f6 : decide ((z : Int) < (b : Int)) = false := decide_eq_false (by omega)
                     have hr5 := HM.out.stay wr (fun h => hP h.1) hrw
                     clear hrw
                     have HJ5 := Lib.hid (C.out.keep _ _ HJ.out hkp)
                     have hr6 := HM.out.left0 wr (fun h => hQ h.2) hr5
                     clear hr5
                     have HJ6 := Lib.hid (C.out.keep _ _ HJ.out hkp)
                     have hr7 := HM.out.right0 Hw.out wr (fun h => hP h.1) hr6
                     clear hr6
                     go_wp2
                     (try simp only [Exit.inBlock, Exit.then])
                     refine bodyPost_end (results_none rfl _ _ _) rfl ?_
                     exact ⟨rfl, hkp, hr7⟩)
              · by_cases hT : z < b
                · first
                  | (exfalso; omega)
                  | (have f1 : decide ((s : Int) < (m : Int)) = false := decide_eq_false (by omega)
                     have f2 : decide ((m : Int) < (z : Int)) = false := decide_eq_false (by omega)
                     have f3 : decide ((a : Int) < (s : Int)) = false := decide_eq_false (by omega)
                     have f4 : decide ((s : Int) < (mid : Int)) = false := decide_eq_false (by omega)
                     have f5 : decide ((mid : Int) < (z : Int)) = false := decide_eq_false (by omega)
                     have f6 : decide ((z : Int) < (b : Int)) = true := decide_eq_true (by omega)
                     have hr5 := HM.out.stay wr (fun h => hP h.1) hrw
                     clear hrw
                     have HJ5 := Lib.hid (C.out.keep _ _ HJ.out hkp)
                     have hr6 := HM.out.left0 wr (fun h => hK h.1) hr5
                     clear hr5
                     have HJ6 := Lib.hid (C.out.keep _ _ HJ.out hkp)
                     have hr7 := HM.out.right0 Hw.out wr (fun h => hP h.1) hr6
                     clear hr6
                     go_wp2
                     (try simp only [Exit.inBlock, Exit.then])
                     refine bodyPost_end (results_none rfl _ _ _) rfl ?_
                     exact ⟨rfl, hkp, hr7⟩)
                · first
                  | (exfalso; omega)
                  | (have f1 : decide ((s : Int) < (m : Int)) = false := decide_eq_false (by omega)
                     have f2 : decide ((m : Int) < (z : Int)) = false := decide_eq_false (by omega)
                     have f3 : decide ((a : Int) < (s : Int)) = false := decide_eq_false (by omega)
                     have f4 : decide ((s : Int) < (mid : Int)) = false := decide_eq_false (by omega)
                     have f5 : decide ((mid : Int) < (z : Int)) = false := decide_eq_false (by omega)
                     have f6 : decide ((z : Int) < (b : Int)) = false := decide_eq_false (by omega)
                     have hr5 := HM.out.stay wr (fun h => hP h.1) hrw
                     clear hrw
                     have HJ5 := Lib.hid (C.out.keep _ _ HJ.out hkp)
                     have hr6 := HM.out.left0 wr (fun h => hK h.1) hr5
                     clear hr5
                     have HJ6 := Lib.hid (C.out.keep _ _ HJ.out hkp)
                     have hr7 := HM.out.right0 Hw.out wr (fun h => hP h.1) hr6
                     clear hr6
                     go_wp2
                     (try simp only [Exit.inBlock, Exit.then])
                     refine bodyPost_end (results_none rfl _ _ _) rfl ?_
                     exact ⟨rfl, hkp, hr7⟩)
theorem sym_rec (C : CmpC g lt S J fv) (hw : Wk lt) : ∀ N, SymAt g lt S J fv N
  | 0 => by intro cap n a m b A L R D w hN hn ha hm hb hL0 hR0; omega
  | N + 1 => sym_step C hw N (sym_rec C hw N)
end
end Go.Proofs.YtjhdamjbljafhaaGreatDoor
