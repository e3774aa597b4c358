/- stable, SortStableFunc: the row is sorted, those alike stay in their order. The comparing function of own's sort; a sort of nothing; the first end behind a place. A sort of nothing; the first end behind a place. -/
import Derived.Test.YtjhdamjbljafhaaGreatDoorP38
import Derived.Test.YtjhdamjbljafhaaGreatDoorP33
namespace Go.Proofs.YtjhdamjbljafhaaGreatDoor
open Go.RowKit
section
variable {g : Nat} {lt : (RUnit × GUnit) → (RUnit × GUnit) → Bool} {S : (RUnit × GUnit) → Prop} {J : World → Prop} {fv : Value}
def Stb1 (lt : (RUnit × GUnit) → (RUnit × GUnit) → Bool) (g cap n : Nat) (xs : List (RUnit × GUnit)) (a : Nat) (w : World) : Prop := ∃ X Z, X.length = a ∧ Full lt 20 X ∧ SO lt xs (X ++ Z) ∧ Rw g cap n w (X ++ Z)
def Stb2 (lt : (RUnit × GUnit) → (RUnit × GUnit) → Bool) (g cap n : Nat) (xs : List (RUnit × GUnit)) (q : Nat) (w : World) : Prop := ∃ X Y, Full lt q X ∧ Srt lt Y ∧ Y.length < q ∧ SO lt xs (X ++ Y) ∧ Rw g cap n w (X ++ Y)
def Stb3 (lt : (RUnit × GUnit) → (RUnit × GUnit) → Bool) (g cap n : Nat) (xs : List (RUnit × GUnit)) (q a : Nat) (w : World) : Prop := ∃ X2 X Y, X2.length = a ∧ Full lt (2 * q) X2 ∧ Full lt q X ∧ Srt lt Y ∧ Y.length < q ∧ SO lt xs (X2 ++ (X ++ Y)) ∧ Rw g cap n w (X2 ++ (X ++ Y))
theorem Stb3.end_ {cap n q a : Nat} {xs : List (RUnit × GUnit)} {w : World} (h : Stb3 lt g cap n xs q a w) (h1 : n < a + 2 * q) (h2 : n ≤ a + q) : Stb2 lt g cap n xs (2 * q) w := by
  obtain ⟨X2, X, Y, k1, k2, k3, k4, k5, k6, k7⟩ := h
  have hl := k7.len
  simp only [List.length_append] at hl
  rcases k3.two with rfl | ⟨l1, s1⟩ | ⟨c1, c2, X', rfl, l1, l2, _, _, _⟩
  · exact ⟨X2, Y, k2, k4, by omega, by simpa using k6, by simpa using k7⟩
  · have : Y = [] := List.eq_nil_of_length_eq_zero (by omega)
    subst this
    exact ⟨X2, X, k2, s1, by omega, by simpa using k6, by simpa using k7⟩
  · simp at hl; omega
theorem Stb2.fin {cap n q : Nat} {xs : List (RUnit × GUnit)} {w : World} (h : Stb2 lt g cap n xs q w) (h1 : n ≤ q) : ∃ M, Srt lt M ∧ SO lt xs M ∧ Rw g cap n w M := by
  obtain ⟨X, Y, k2, k4, k5, k6, k7⟩ := h
  have hl := k7.len
  simp only [List.length_append] at hl
  rcases k2.two with rfl | ⟨l1, s1⟩ | ⟨c1, c2, X', rfl, l1, l2, _, _, _⟩
  · exact ⟨Y, k4, by simpa using k6, by simpa using k7⟩
  · have : Y = [] := List.eq_nil_of_length_eq_zero (by omega)
    subst this
    exact ⟨X, s1, by simpa using k6, by simpa using k7⟩
  · simp at hl; omega
set_option maxRecDepth 100000 in
set_option maxHeartbeats 3200000 in
theorem stable_any (C : CmpC g lt S J fv) (hw : Wk lt) (cap n : Nat) (xs : List (RUnit × GUnit)) (w : World) (hn : n ≤ 1048576) (hS : ∀ y ∈ xs, S y) (hJ : J w) (hrow : Rw g cap n w xs) :
    Calls Tryz.prog 102 #[.slice (some ⟨g, 0, none⟩) n cap, .int .i64 (n : Nat), fv] w fun e w' => e = .returned (.tuple #[]) ∧ Kp g w w' ∧ ∃ M, Srt lt M ∧ SO lt xs M ∧ Rw g cap n w' M := by
  have h0 : Stb1 lt g cap n xs 0 w := ⟨[], xs, rfl, Full.nil, by simpa using SO.refl xs, by simpa using hrow⟩
  have HS := Lib.hid (show ∀ l, SO lt xs l → ∀ y ∈ l, S y from fun l h y hy => hS y (h.perm.mem_iff.2 hy))
  have Hsym := Lib.hid (fun N => sym_rec C hw N)
  have Hins := Lib.hid (fun a b A B D wq hn h1 h2 h3 h4 h5 => insSort_any C hw cap n a b A B D wq hn h1 h2 h3 h4 h5)
  have Hw := Lib.hid hw
  replace C := Lib.hid C
  have HJ := Lib.hid hJ
  clear hw hS hJ hrow
  go_enter Tryz.func102, Tryz.ntmps102
  go_wp2
  go_loopw [7, 8] (fun vi vj wr => ∃ a : Nat, a ≤ n ∧ vi = .int .i64 (a : Nat) ∧ vj = .int .i64 ((a + 20 : Nat) : Int) ∧ Kp g w wr ∧ Stb1 lt g cap n xs a wr) (fun vi _ _ => n - (intOf vi).toNat)
  case atStart => exact ⟨0, Nat.zero_le _, rfl, by go_num, Kp.refl _ _, h0⟩
  case round =>
    clear h0
    obtain ⟨a, han, rfl, rfl, hkp, hst⟩ := hrel
    have HJr := Lib.hid (C.out.keep _ _ HJ.out hkp)
    by_cases hlt : a + 20 ≤ n
    · have d1 : decide (((a + 20 : Nat) : Int) ≤ (n : Int)) = true := decide_eq_true (by omega)
      obtain ⟨X, Z, k1, k2, k3, k4⟩ := hst
      have hl := k4.len
      simp only [List.length_append] at hl
      have e1 : X ++ Z = X ++ Z.take 20 ++ Z.drop 20 := by simp
      rw [e1] at k3 k4
      have Hc := Lib.hid (Hins.out a (a + 20) X (Z.take 20) (Z.drop 20) wr hn k1.symm (by simp; omega) (fun y hy => HS.out _ k3 y (by rw [← e1]; exact List.mem_append_right _ (List.mem_of_mem_take hy))) HJr.out k4)
      have Hk := Lib.hid (show ∀ w' M, Srt lt M → SO lt (Z.take 20) M → Rw g cap n w' (X ++ M ++ Z.drop 20) → Stb1 lt g cap n xs (a + 20) w' from fun w' M q1 q2 q3 => by
        have hM := q2.perm.length_eq
        rw [List.length_take, Nat.min_eq_left (by omega)] at hM
        exact ⟨X ++ M, Z.drop 20, by simp; omega, k2.snoc hM.symm q1, k3.trans (((SO.refl X).append q2).append (SO.refl _)), q3⟩)
      obtain ⟨b, hb⟩ : ∃ b, a + 20 = b := ⟨_, rfl⟩
      rw [hb] at Hc Hk d1 hlt ⊢
      have Hb := Lib.hid hb
      clear k1 k2 k3 k4 hl e1 hb
      go_wp2_with fail
      refine (Hc.out).mono ?_
      rintro e w2 ⟨rfl, hk2, M, q1, q2, q3⟩
      have hst2 := Hk.out w2 M q1 q2 q3
      clear q1 q2 q3 Hc Hk
      go_wp2
      go_roundw
      case rel => exact ⟨b, hlt, rfl, by go_num, hkp.trans hk2, hst2⟩
      case measure => have := Hb.out; simp [intOf]; omega
    · have d1 : decide (((a + 20 : Nat) : Int) ≤ (n : Int)) = false := decide_eq_false (by omega)
      obtain ⟨X, Z, k1, k2, k3, k4⟩ := hst
      have hl := k4.len
      simp only [List.length_append] at hl
      have e1 : X ++ Z = X ++ Z ++ [] := by simp
      rw [e1] at k4
      have Hc := Lib.hid (Hins.out a n X Z [] wr hn k1.symm (by omega) (fun y hy => HS.out _ k3 y (List.mem_append_right _ hy)) HJr.out k4)
      have Hk := Lib.hid (show ∀ w' M, Srt lt M → SO lt Z M → Rw g cap n w' (X ++ M ++ []) → Stb2 lt g cap n xs 20 w' from fun w' M q1 q2 q3 => by
        have hM := q2.perm.length_eq
        exact ⟨X, M, k2, q1, by omega, k3.trans ((SO.refl X).append q2), by simpa using q3⟩)
      clear k1 k2 k3 k4 hl e1
      go_wp2_with fail
      refine (Hc.out).mono ?_
      rintro e w2 ⟨rfl, hk2, M, q1, q2, q3⟩
      have hst2 := Hk.out w2 M q1 q2 q3
      have hkp2 := hkp.trans hk2
      clear q1 q2 q3 Hc Hk hkp hk2 HJr Hins
      go_wp2
      go_loopw [6] (fun vq wr => ∃ q : Nat, 0 < q ∧ q ≤ 4194304 ∧ vq = .int .i64 (q : Nat) ∧ Kp g w wr ∧ Stb2 lt g cap n xs q wr) (fun vq _ => n - (intOf vq).toNat)
      case atStart => exact ⟨20, by omega, by omega, rfl, hkp2, hst2⟩
      case round =>
        clear hst2 hkp2
        obtain ⟨q, hq0, hqn, rfl, hkq, hsq⟩ := hrel
        by_cases hqlt : q < n
        · have d2 : decide ((q : Int) < (n : Int)) = true := decide_eq_true (by omega)
          have hs30 : Stb3 lt g cap n xs q 0 wr := by
            obtain ⟨X, Y, k2, k4, k5, k6, k7⟩ := hsq
            exact ⟨[], X, Y, rfl, Full.nil, k2, k4, k5, by simpa using k6, by simpa using k7⟩
          clear hsq
          go_wp2
          go_loopw [7, 8] (fun vi vj wr => ∃ a b : Nat, a ≤ n ∧ b ≤ 10485760 ∧ Hid (b = a + 2 * q) ∧ vi = .int .i64 (a : Nat) ∧ vj = .int .i64 (b : Nat) ∧ Kp g w wr ∧ Stb3 lt g cap n xs q a wr) (fun vi _ _ => n - (intOf vi).toNat)
          case atStart => exact ⟨0, 2 * q, Nat.zero_le _, by omega, Lib.hid (by omega), rfl, by go_num, hkq, hs30⟩
          case round =>
            clear hs30 hkq
            obtain ⟨a, b, han2, hb1, Hb, rfl, rfl, hkp, hst⟩ := hrel
            have hb2 := Hb.out
            have hab : a < b := by omega
            obtain ⟨m, hm⟩ : ∃ m, m = a + q := ⟨_, rfl⟩
            have em : (a : Int) + (q : Int) = ((m : Nat) : Int) := by omega
            have hm1 : m < b := by omega
            have hm2 : a < m := by omega
            have Hm := Lib.hid hm
            have HJr := Lib.hid (C.out.keep _ _ HJ.out hkp)
            by_cases hbn : b ≤ n
            · have d3 : decide ((b : Int) ≤ (n : Int)) = true := decide_eq_true (by omega)
              obtain ⟨X2, X, Y, k1, k2, k3, k4, k5, k6, k7⟩ := hst
              have hl := k7.len
              simp only [List.length_append] at hl
              obtain ⟨c1, c2, X', rfl, l1, l2, s1, s2, kf⟩ : ∃ c1 c2 X', X = c1 ++ c2 ++ X' ∧ c1.length = q ∧ c2.length = q ∧ Srt lt c1 ∧ Srt lt c2 ∧ Full lt q X' := by
                rcases k3.two with rfl | ⟨l1, s1⟩ | h
                · simp at hl; omega
                · omega
                · exact h
              have e1 : X2 ++ (c1 ++ c2 ++ X' ++ Y) = X2 ++ c1 ++ c2 ++ (X' ++ Y) := by simp only [List.append_assoc]
              rw [e1] at k6 k7
              have Hc := Lib.hid (Hsym.out (b - a) cap n a m b X2 c1 c2 (X' ++ Y) wr (Nat.le_refl _) hn k1.symm (by omega) (by omega) (by omega) (by omega) s1 s2 (fun y hy => HS.out _ k6 y (by rcases List.mem_append.1 hy with hy | hy <;> simp [hy])) HJr.out k7)
              have Hk := Lib.hid (show ∀ w' M, Srt lt M → SO lt (c1 ++ c2) M → Rw g cap n w' (X2 ++ M ++ (X' ++ Y)) → Stb3 lt g cap n xs q b w' from fun w' M q1 q2 q3 => by
                have hM := q2.perm.length_eq
                simp only [List.length_append] at hM
                refine ⟨X2 ++ M, X', Y, by simp; omega, k2.snoc (by omega) q1, kf, k4, k5, k6.trans ?_, q3⟩
                rw [show X2 ++ c1 ++ c2 ++ (X' ++ Y) = X2 ++ (c1 ++ c2) ++ (X' ++ Y) by simp only [List.append_assoc]]
                exact ((SO.refl X2).append q2).append (SO.refl _))
              clear k1 k2 k3 k4 k5 k6 k7 hl e1 hm hb2
              go_wp2_with fail
              refine (Hc.out).mono ?_
              rintro e w2 ⟨rfl, hk2, M, q1, q2, q3⟩
              have hst2 := Hk.out w2 M q1 q2 q3
              clear q1 q2 q3 Hc Hk
              go_wp2
              go_roundw
              case rel => exact ⟨b, b + 2 * q, hbn, by omega, Lib.hid rfl, rfl, by go_num, hkp.trans hk2, hst2⟩
              case measure => simp [intOf]; omega
            · have d3 : decide ((b : Int) ≤ (n : Int)) = false := decide_eq_false (by omega)
              by_cases hmn : m < n
              · have d4 : decide ((m : Int) < (n : Int)) = true := decide_eq_true (by omega)
                obtain ⟨X2, X, Y, k1, k2, k3, k4, k5, k6, k7⟩ := hst
                have hl := k7.len
                simp only [List.length_append] at hl
                obtain ⟨l1, s1⟩ : X.length = q ∧ Srt lt X := by
                  rcases k3.two with rfl | h | ⟨c1, c2, X', rfl, l1, l2, _, _, _⟩
                  · simp at hl; omega
                  · exact h
                  · simp at hl; omega
                have e1 : X2 ++ (X ++ Y) = X2 ++ X ++ Y ++ [] := by simp
                rw [e1] at k6 k7
                have Hc := Lib.hid (Hsym.out (n - a) cap n a m n X2 X Y [] wr (Nat.le_refl _) hn k1.symm (by omega) (by omega) (by omega) (by omega) s1 k4 (fun y hy => HS.out _ k6 y (by rcases List.mem_append.1 hy with hy | hy <;> simp [hy])) HJr.out k7)
                have Hk := Lib.hid (show ∀ w' M, Srt lt M → SO lt (X ++ Y) M → Rw g cap n w' (X2 ++ M ++ []) → Stb2 lt g cap n xs (2 * q) w' from fun w' M q1 q2 q3 => by
                  have hM := q2.perm.length_eq
                  simp only [List.length_append] at hM
                  refine ⟨X2, M, k2, q1, by omega, k6.trans ?_, by simpa using q3⟩
                  rw [show X2 ++ X ++ Y ++ [] = X2 ++ (X ++ Y) by simp]
                  exact (SO.refl X2).append q2)
                clear k1 k2 k3 k4 k5 k6 k7 hl e1 hm hb2
                go_wp2_with fail
                refine (Hc.out).mono ?_
                rintro e w2 ⟨rfl, hk2, M, q1, q2, q3⟩
                have hst2 := Hk.out w2 M q1 q2 q3
                clear q1 q2 q3 Hc Hk
                go_wp2
                go_roundw
                case rel => exact ⟨2 * q, by omega, by omega, by go_num, hkp.trans hk2, hst2⟩
                case measure => simp [intOf]; omega
              · have d4 : decide ((m : Int) < (n : Int)) = false := decide_eq_false (by omega)
                have hst2 := hst.end_ (by omega) (by omega)
                clear hst hm hb2
                go_wp2
                go_roundw
                case rel => exact ⟨2 * q, by omega, by omega, by go_num, hkp, hst2⟩
                case measure => simp [intOf]; omega
        · have d2 : decide ((q : Int) < (n : Int)) = false := decide_eq_false (by omega)
          obtain ⟨M, q1, q2, q3⟩ := hsq.fin (by omega)
          have hfin : ∃ M, Srt lt M ∧ SO lt xs M ∧ Rw g cap n wr M := ⟨M, q1, q2, q3⟩
          clear q1 q2 q3 hsq
          go_wp2
          (try simp only [Exit.inBlock, Exit.then])
          refine bodyPost_end (results_none rfl _ _ _) rfl ?_
          exact ⟨rfl, hkq, hfin⟩
set_option maxRecDepth 100000 in
set_option maxHeartbeats 1600000 in
theorem sortStable_any (C : CmpC g lt S J fv) (hw : Wk lt) (cap n : Nat) (xs : List (RUnit × GUnit)) (w : World) (hn : n ≤ 1048576) (hS : ∀ y ∈ xs, S y) (hJ : J w) (hrow : Rw g cap n w xs) :
    Calls Tryz.prog 64 #[.slice (some ⟨g, 0, none⟩) n cap, fv] w fun e w' => e = .returned (.tuple #[]) ∧ Kp g w w' ∧ ∃ M, Srt lt M ∧ SO lt xs M ∧ Rw g cap n w' M := by
  have Hc := Lib.hid (stable_any C hw cap n xs w hn hS hJ hrow)
  clear C hw hS hJ hrow
  go_enter Tryz.func64, Tryz.ntmps64
  go_wp2_with fail
  refine (Hc.out).mono ?_
  rintro e w2 ⟨rfl, hk2, hM⟩
  go_wp2
  (try simp only [Exit.inBlock, Exit.then])
  refine bodyPost_end (results_none rfl _ _ _) rfl ?_
  exact ⟨rfl, hk2, hM⟩
end
end Go.Proofs.YtjhdamjbljafhaaGreatDoor
namespace Go.Proofs.YtjhdamjbljafhaaGreatDoor
open Go.RowKit
theorem box_of {b : Nat} {r : RUnit} {w : World} (h : ∀ k v, r.cells[k]? = some v → w.cell? ⟨b, k, none⟩ = some v) : BoxU b r w :=
  ⟨World.block_lt_of_cell? w ⟨b, 0, none⟩ (h 0 _ rfl), h 0 _ rfl, h 1 _ rfl, h 2 _ rfl, h 3 _ rfl, h 4 _ rfl, h 5 _ rfl, h 6 _ rfl, h 7 _ rfl⟩
def ltK (u : GUnit) (x y : RUnit × GUnit) : Bool := decide (calledF u x.2 < calledF u y.2)
theorem ltK_wk (u : GUnit) : Wk (ltK u) where
  irr x := by simp [ltK]
  tr x y z h1 h2 := by simp only [ltK, decide_eq_true_eq] at *; omega
  nt x y z h1 h2 := by simp only [ltK, decide_eq_false_iff_not] at *; omega
structure JK (g bu : Nat) (u : GUnit) (ru : RUnit) (ps : List (RUnit × GUnit)) (w : World) : Prop where
  box : ∀ k v, ru.cells[k]? = some v → (mask (fun k => k == g) w).cell? ⟨bu, k, none⟩ = some v
  u : Reads (mask (fun k => k == g) w) u ru
  ps : ∀ p ∈ ps, Reads (mask (fun k => k == g) w) p.2 p.1
theorem JK.keep {g bu : Nat} {u : GUnit} {ru : RUnit} {ps : List (RUnit × GUnit)} {w w' : World} (h : JK g bu u ru ps w) (hk : Kp g w w') : JK g bu u ru ps w' :=
  ⟨fun k v hv => hk.cin.cell _ _ (h.box k v hv), Reads.cin hk.cin _ _ h.u, fun p hp => Reads.cin hk.cin _ _ (h.ps p hp)⟩
set_option maxRecDepth 100000 in
set_option maxHeartbeats 1600000 in
theorem cmpK_any (g bu : Nat) (u : GUnit) (ru : RUnit) (ps : List (RUnit × GUnit)) (x y : RUnit × GUnit) (w : World) (hok : OkU u) (hx : x ∈ ps) (hy : y ∈ ps) (hJ : JK g bu u ru ps w) :
    Calls Tryz.prog 65 (#[.agg (pairEl.E x).toArray, .agg (pairEl.E y).toArray] ++ #[.pointer (some ⟨bu, 0, none⟩)]) w fun e w' => ∃ z : Int, e = .returned (.int .i64 z) ∧ decide (z < 0) = ltK u x y ∧ Ext w w' := by
  have hbu : BoxU bu ru w := box_of fun k v hv => (CIn.unmask _ _).cell _ _ (hJ.box k v hv)
  have hru := Reads.cin (CIn.unmask _ _) _ _ hJ.u
  have hrx := Reads.cin (CIn.unmask _ _) _ _ (hJ.ps x hx)
  have hry := Reads.cin (CIn.unmask _ _) _ _ (hJ.ps y hy)
  obtain ⟨rx, ux⟩ := x
  obtain ⟨ry, uy⟩ := y
  dsimp only at hrx hry
  have hcx := fun wq (he : Ext w wq) => called_any u ux ru rx wq (Reads.ext he _ _ hru) (Reads.ext he _ _ hrx) hok
  have hcy := fun wq (he : Ext w wq) => called_any u uy ru ry wq (Reads.ext he _ _ hru) (Reads.ext he _ _ hry) hok
  have b1 := calledF_ge u ux
  have b2 := calledF_ge u uy
  have b3 := calledF_lt u ux
  have b4 := calledF_lt u uy
  have b5 := hok.all.head.2.2.1
  have hlt : ∀ z : Int, z = calledF u ux - calledF u uy → decide (z < 0) = ltK u (rx, ux) (ry, uy) := fun z hz => by
    rw [hz]
    simp only [ltK]
    exact decide_eq_decide.2 (by omega)
  obtain ⟨X, hX⟩ : ∃ X, calledF u ux = X := ⟨_, rfl⟩
  obtain ⟨Y, hY⟩ : ∃ Y, calledF u uy = Y := ⟨_, rfl⟩
  rw [hX] at hcx b1 b3 hlt
  rw [hY] at hcy b2 b4 hlt
  generalize ltK u (rx, ux) (ry, uy) = BB at hlt ⊢
  have Hlt := Lib.hid hlt
  have hx1 : Ext w (w.alloc (.cells rx.cells.toArray 27)) := (Ext.refl w).alloc _
  have hx2 : Ext (w.alloc (.cells rx.cells.toArray 27)) ((w.alloc (.cells rx.cells.toArray 27)).alloc (.cells ry.cells.toArray 27)) := (Ext.refl _).alloc _
  have hb1 := (BoxU.new rx w).ext hx2
  have hb2 := BoxU.new ry (w.alloc (.cells rx.cells.toArray 27))
  rw [show (w.alloc (.cells rx.cells.toArray 27)).heap.size = w.heap.size + 1 by simp] at hb2
  have hxx := hx1.trans hx2
  replace hbu := hbu.ext hxx
  simp only [show (fun p : RUnit × GUnit => pairEl.E p) = fun p => p.1.cells from rfl, show pairEl.E (rx, ux) = rx.cells from rfl, show pairEl.E (ry, uy) = ry.cells from rfl]
  obtain ⟨wb, hwb⟩ : ∃ wb, (w.alloc (.cells rx.cells.toArray 27)).alloc (.cells ry.cells.toArray 27) = wb := ⟨_, rfl⟩
  rw [hwb] at hb1 hb2 hbu hxx
  have Hu := Lib.hid (fun wq (he : Ext wb wq) => (hbu.ext he).t)
  have Hx := Lib.hid (fun wq (he : Ext wb wq) => (hb1.ext he).t)
  have Hy := Lib.hid (fun wq (he : Ext wb wq) => (hb2.ext he).t)
  have Hcx := Lib.hid (fun wq (he : Ext wb wq) => hcx wq (hxx.trans he))
  have Hcy := Lib.hid (fun wq (he : Ext wb wq) => hcy wq (hxx.trans he))
  have Hxx := Lib.hid hxx
  have Hwb := Lib.hid hwb
  clear hX hY hlt hcx hcy hb1 hb2 hbu hxx hx1 hx2 hwb hru hrx hry hx hy hJ
  simp only [List.push_toArray, List.append_toArray, List.cons_append, List.nil_append]
  go_enter Tryz.func65, Tryz.ntmps65
  go_wp2
  rw [Hwb.out]
  refine wp_drawn (by kernel_rfl) (fun i => match i with | 0 => Ty.is (.agg (RUnit.cells ru).toArray) | 1 => Ty.is (.agg (RUnit.cells rx).toArray) | 2 => Ty.is (.int .i64 X) | 3 => Ty.is (.agg (RUnit.cells ru).toArray) | 4 => Ty.is (.agg (RUnit.cells ry).toArray) | 5 => Ty.is (.int .i64 Y) | 6 => Ty.is (.int .i64 (X - Y)) | 7 => Ty.is (.int .i64 (X - Y)) | _ => Ty.any) (by kernel_rfl) rfl ?_
  intro v
  refine ⟨?_, ?_, ?_, ?_, ?_, ?_, ?_, ?_, ?_⟩
  · intro wq hq hd
    refine ob_plain rfl ?_
    exact yld_loadAgg 27 (.tmp 2) rfl Tryz.isAgg27 8 Tryz.sizeOf27 (RUnit.cells ru) rfl (Hu.out _ hq) rfl
  · intro wq hq hd
    refine ob_plain rfl ?_
    exact yld_loadAgg 27 (.tmp 3) rfl Tryz.isAgg27 8 Tryz.sizeOf27 (RUnit.cells rx) rfl (Hx.out _ hq) rfl
  · intro wq hq hd
    obtain ⟨h0, h1, -⟩ := hd
    change v 0 = _ at h0
    change v 1 = _ at h1
    refine ob_plain rfl ?_
    refine yld_call 33 Tryz.call33 _ _ rfl rfl [_, _] ⟨h0, h1, trivial⟩ ?_
    refine (Hcx.out _ hq).mono ?_
    rintro e w' ⟨rfl, hx2⟩
    exact ⟨_, rfl, hx2, rfl⟩
  · intro wq hq hd
    refine ob_plain rfl ?_
    exact yld_loadAgg 27 (.tmp 2) rfl Tryz.isAgg27 8 Tryz.sizeOf27 (RUnit.cells ru) rfl (Hu.out _ hq) rfl
  · intro wq hq hd
    refine ob_plain rfl ?_
    exact yld_loadAgg 27 (.tmp 4) rfl Tryz.isAgg27 8 Tryz.sizeOf27 (RUnit.cells ry) rfl (Hy.out _ hq) rfl
  · intro wq hq hd
    obtain ⟨h0, h1, h2, -⟩ := hd
    change v 3 = _ at h0
    change v 4 = _ at h1
    refine ob_plain rfl ?_
    refine yld_call 33 Tryz.call33 _ _ rfl rfl [_, _] ⟨h0, h1, trivial⟩ ?_
    refine (Hcy.out _ hq).mono ?_
    rintro e w' ⟨rfl, hx2⟩
    exact ⟨_, rfl, hx2, rfl⟩
  · intro wq hq hd
    obtain ⟨h0, h1, -⟩ := hd
    change v 2 = _ at h0
    change v 5 = _ at h1
    refine ob_plain rfl ?_
    exact yld_binInt .sub 3 3 (.tmp 8) (.tmp 11) rfl _ _ h0 h1 (run_sub_i64 _ _ _ (by omega) (by omega)) rfl
  · intro wq hq hd
    obtain ⟨h0, h1, h2, h3, h4, h5, h6, h7, h8, -⟩ := hd
    change v 6 = _ at h0
    refine ob_plain rfl ?_
    exact yld_assign (.tmp 12) rfl h0 rfl
  · intro wq hq hT
    have k7 := hT 7 (by decide)
    change v 7 = _ at k7
    clear hT
    simp only [List.drop_succ_cons, List.drop_zero, putE, setsE, List.set_cons_succ, List.set_cons_zero, Nat.reduceAdd]
    rw [k7]
    go_wp2
    go_ret
    exact ⟨_, rfl, Hlt.out _ rfl, Hxx.out.trans hq⟩
theorem cmpK_of (g bu : Nat) (u : GUnit) (ru : RUnit) (ps : List (RUnit × GUnit)) (hok : OkU u) : CmpC g (ltK u) (fun x => x ∈ ps) (JK g bu u ru ps) (.func (.func 65) #[] #[.pointer (some ⟨bu, 0, none⟩)]) where
  keep _ _ h hk := h.keep hk
  call := ⟨_, rfl, fun x y w hx hy hJ => cmpK_any g bu u ru ps x y w hok hx hy hJ⟩
end Go.Proofs.YtjhdamjbljafhaaGreatDoor
namespace Go.Proofs.YtjhdamjbljafhaaGreatDoor
open Go.RowKit
set_option maxRecDepth 100000 in
set_option maxHeartbeats 1600000 in
theorem insNil_any (fv : Value) (w : World) : Calls Tryz.prog 144 #[.slice none 0 0, .int .i64 0, .int .i64 0, fv] w fun e w' => e = .returned (.tuple #[]) ∧ w' = w := by
  go_enter Tryz.func144, Tryz.ntmps144
  go_wp2
  go_loopw [8] (fun vi wr => vi = .int .i64 1 ∧ wr = w) (fun _ _ => 0)
  case atStart => exact ⟨rfl, rfl⟩
  case round =>
    obtain ⟨rfl, rfl⟩ := hrel
    go_wp2
    exact bodyPost_end (results_none rfl _ _ _) rfl ⟨rfl, rfl⟩
set_option maxRecDepth 100000 in
set_option maxHeartbeats 1600000 in
theorem stableNil_any (fv : Value) (w : World) : Calls Tryz.prog 102 #[.slice none 0 0, .int .i64 0, fv] w fun e w' => e = .returned (.tuple #[]) ∧ w' = w := by
  have Hi := Lib.hid (insNil_any fv w)
  go_enter Tryz.func102, Tryz.ntmps102
  go_wp2_with fail
  go_loopw [7, 8] (fun va vb wr => va = .int .i64 0 ∧ vb = .int .i64 20 ∧ wr = w) (fun _ _ _ => 0)
  case atStart => exact ⟨rfl, rfl, rfl⟩
  case round =>
    obtain ⟨rfl, rfl, rfl⟩ := hrel
    go_wp2_with fail
    refine (Hi.out).mono ?_
    rintro e w2 ⟨rfl, rfl⟩
    go_wp2
    go_loopw [6] (fun va wr => va = .int .i64 20 ∧ wr = w2) (fun _ _ => 0)
    case atStart => exact ⟨rfl, rfl⟩
    case round =>
      obtain ⟨rfl, rfl⟩ := hrel
      go_wp2
      exact bodyPost_end (results_none rfl _ _ _) rfl ⟨rfl, rfl⟩
set_option maxRecDepth 100000 in
set_option maxHeartbeats 800000 in
theorem sortNil_any (fv : Value) (w : World) : Calls Tryz.prog 64 #[.slice none 0 0, fv] w fun e w' => e = .returned (.tuple #[]) ∧ w' = w := by
  have Hi := Lib.hid (stableNil_any fv w)
  go_enter Tryz.func64, Tryz.ntmps64
  go_wp2_with fail
  refine (Hi.out).mono ?_
  rintro e w2 ⟨rfl, rfl⟩
  go_wp2
  exact bodyPost_end (results_none rfl _ _ _) rfl ⟨rfl, rfl⟩
set_option maxHeartbeats 400000 in
theorem own2_any (x at_ : Int) (B : Nat) (w : World) (hB : w.cell? ⟨B, 0, none⟩ = some (.int .i64 at_)) : Calls Tryz.prog 67 #[.int .i64 x, .pointer (some ⟨B, 0, none⟩)] w fun e w' => e = .returned (.bool (decide (at_ < x))) ∧ Ext w w' := by
  go_enter Tryz.func67, Tryz.ntmps67
  go_wp2
  go_ret
  exact ⟨rfl, Ext.refl _⟩
set_option maxRecDepth 100000 in
set_option maxHeartbeats 1600000 in
theorem idxEnd_any (A : Option Addr) (c : Nat) (l : List Int) (at_ : Int) (B : Nat) (w : World) (hs : Sl intEl w A l) (hlt : B < w.heap.size) (hB : w.cell? ⟨B, 0, none⟩ = some (.int .i64 at_)) (hn : l.length ≤ 1000) :
    Calls Tryz.prog 66 #[.slice A l.length c, .func (.func 67) #[] #[.pointer (some ⟨B, 0, none⟩)]] w fun e w' => e = .returned (.int .i64 (idxI (fun x => decide (at_ < x)) l 0)) ∧ Ext w w' := by
  have Hc := Lib.hid (fun k (h : k < l.length) wq (he : Ext w wq) => own2_any l[k] at_ B wq ((he.cell (p := ⟨B, 0, none⟩) hlt).trans hB))
  have Hs := Lib.hid hs
  obtain ⟨q, hq⟩ : ∃ q : Int → Bool, (fun x => decide (at_ < x)) = q := ⟨_, rfl⟩
  simp only [show ∀ x, decide (at_ < x) = q x from fun x => by rw [← hq]] at Hc
  rw [hq]
  obtain ⟨R, hR⟩ : ∃ R, idxI q l 0 = R := ⟨_, rfl⟩
  have HR := Lib.hid (show idxI q (l.drop 0) ((0 : Nat)) = R from hR)
  rw [hR]
  clear hs hR hq hB
  go_enter Tryz.func66, Tryz.ntmps66
  go_wp2
  go_loopw [5, 8] (fun _ vk wr => ∃ k : Nat, k ≤ l.length ∧ vk = .int .i64 (k : Nat) ∧ Ext w wr ∧ Hid (idxI q (l.drop k) k = R)) (fun _ vk _ => l.length - (intOf vk).toNat)
  case atStart => exact ⟨0, Nat.zero_le _, rfl, Ext.refl _, HR⟩
  case round =>
    obtain ⟨k, hk, rfl, hext, HK⟩ := hrel
    by_cases hlt2 : k < l.length
    · obtain ⟨b, off, hAe, hb, u0⟩ := intAt (Hs.out.ext hext) hlt2
      subst hAe
      have Hc2 := Lib.hid (Hc.out k hlt2 wr hext)
      have hi := idxI_drop (q := q) hlt2
      obtain ⟨x, hx⟩ : ∃ x, l[k] = x := ⟨_, rfl⟩
      rw [hx] at u0 Hc2 hi
      rw [HK.out] at hi
      have d1 : decide ((k : Int) < (l.length : Int)) = true := decide_eq_true (by omega)
      obtain ⟨b1, hb1⟩ : ∃ b1, q x = b1 := ⟨_, rfl⟩
      rw [hb1] at Hc2 hi
      have Hi := Lib.hid hi
      clear hx hb1 hi
      go_wp2_with fail
      refine (Hc2.out).mono ?_
      rintro e w2 ⟨rfl, hx2⟩
      cases b1 with
      | true =>
        go_wp2
        go_ret
        exact ⟨by rw [Hi.out]; rfl, hext.trans hx2⟩
      | false =>
        go_wp2
        go_roundw
        case rel => exact ⟨k + 1, by omega, by go_num, hext.trans hx2, Lib.hid (by have := Hi.out; simpa using this.symm)⟩
        case measure => simp [intOf]; omega
    · have hR2 : R = -1 := by rw [← HK.out]; exact idxI_end (by omega)
      have d1 : decide ((k : Int) < (l.length : Int)) = false := decide_eq_false (by omega)
      subst hR2
      go_wp2
      go_ret
      exact ⟨rfl, hext⟩
theorem idxEnd_some {n : Int} : ∀ {es : List Int} {a at_ : Int}, endsB n a es = true → at_ < n → a ≤ at_ → ∃ j : Nat, idxI (fun x => decide (at_ < x)) es 0 = (j : Int) ∧ j < es.length := by
  intro es a at_ he h1 h2
  have hne : ¬ idxI (fun x => decide (at_ < x)) es 0 < 0 := by
    rw [idxI_neg]
    intro hall
    have key : ∀ (es : List Int) (a : Int), endsB n a es = true → (∀ x ∈ es, ¬ at_ < x) → es ≠ [] → False := by
      intro es
      induction es with
      | nil => intro a _ _ h; exact h rfl
      | cons e es ih =>
        intro a h hx _
        simp only [endsB, Bool.and_eq_true, decide_eq_true_eq] at h
        by_cases hn : es = []
        · subst hn
          have := h.2
          simp [endsB] at this
          exact hx e (by simp) (by omega)
        · exact ih e h.2 (fun x hm => hx x (List.mem_cons_of_mem _ hm)) hn
    by_cases hn : es = []
    · subst hn
      simp [endsB] at he
      omega
    · exact key es a he (fun x hx => by have := hall x hx; simpa using this) hn
  rcases idxI_range (fun x => decide (at_ < x)) es 0 with h | ⟨j, h, hj, _⟩
  · omega
  · exact ⟨j, by rw [h]; simp, hj⟩
end Go.Proofs.YtjhdamjbljafhaaGreatDoor
