/- insertionSort: a segment of the row is sorted, those alike stay in their order. -/
import Derived.Test.YtjhdamjbljafhaaGreatDoorP33
namespace Go.Proofs.YtjhdamjbljafhaaGreatDoor
open Go.RowKit
section
variable (lt : (RUnit × GUnit) → (RUnit × GUnit) → Bool) (g cap n : Nat) (A B D : List (RUnit × GUnit))
def InsOut (t : Nat) (w : World) : Prop := ∃ M, Srt lt M ∧ SO lt (B.take t) M ∧ Rw g cap n w (A ++ M ++ (B.drop t ++ D))
def InsIn (t j : Nat) (x : RUnit × GUnit) (w : World) : Prop := ∃ B1 B2 xs, Srt lt (B1 ++ B2) ∧ SO lt (B.take t) (B1 ++ B2) ∧ (∀ y ∈ B2, lt x y = true) ∧ j = A.length + B1.length ∧ xs = A ++ B1 ++ x :: (B2 ++ (B.drop (t + 1) ++ D)) ∧ Rw g cap n w xs
end
theorem InsIn.of {lt : (RUnit × GUnit) → (RUnit × GUnit) → Bool} {g cap n : Nat} {A B D : List (RUnit × GUnit)} {t : Nat} {w : World} (ht : t < B.length) (h : InsOut lt g cap n A B D t w) : InsIn lt g cap n A B D t (A.length + t) B[t] w := by
  obtain ⟨M, h1, h2, h3⟩ := h
  have hl := h2.perm.length_eq
  simp at hl
  refine ⟨M, [], _, by simpa using h1, by simpa using h2, by simp, by omega, rfl, ?_⟩
  rw [List.drop_eq_getElem_cons ht] at h3
  simpa only [List.append_assoc, List.cons_append, List.nil_append] using h3
theorem InsIn.fin {lt : (RUnit × GUnit) → (RUnit × GUnit) → Bool} (hw : Wk lt) {A B D B1 B2 xs : List (RUnit × GUnit)} {t : Nat} (ht : t < B.length) (h1 : Srt lt (B1 ++ B2)) (h2 : SO lt (B.take t) (B1 ++ B2)) (h3 : ∀ y ∈ B2, lt B[t] y = true) (h5 : xs = A ++ B1 ++ B[t] :: (B2 ++ (B.drop (t + 1) ++ D))) (h6 : ∀ y ∈ B1, lt B[t] y = false) :
    ∃ M, Srt lt M ∧ SO lt (B.take (t + 1)) M ∧ xs = A ++ M ++ (B.drop (t + 1) ++ D) := by
  obtain ⟨k1, k2⟩ := ins_done hw h1 h6 h3
  refine ⟨B1 ++ B[t] :: B2, k1, ?_, by rw [h5]; simp only [List.append_assoc, List.cons_append]⟩
  rw [List.take_succ_eq_append_getElem ht]
  exact (h2.append (SO.refl [B[t]])).trans k2
theorem InsIn.last {lt : (RUnit × GUnit) → (RUnit × GUnit) → Bool} (hw : Wk lt) {B1 B2 : List (RUnit × GUnit)} {x y : RUnit × GUnit} (h1 : Srt lt (B1 ++ [y] ++ B2)) (h : lt x y = false) : ∀ z ∈ B1 ++ [y], lt x z = false := ins_left hw h1.left h
set_option maxRecDepth 100000 in
set_option maxHeartbeats 3200000 in
theorem insSort_any {g : Nat} {lt : (RUnit × GUnit) → (RUnit × GUnit) → Bool} {S : (RUnit × GUnit) → Prop} {J : World → Prop} {fv : Value} (C : CmpC g lt S J fv) (hw : Wk lt) (cap n a b : Nat) (A B D : List (RUnit × GUnit)) (w : World) (hn : n ≤ 1048576) (ha : a = A.length) (hb : b = A.length + B.length) (hS : ∀ x ∈ B, S x) (hJ : J w) (hrow : Rw g cap n w (A ++ B ++ D)) :
    Calls Tryz.prog 144 #[.slice (some ⟨g, 0, none⟩) n cap, .int .i64 (a : Nat), .int .i64 (b : Nat), fv] w fun e w' => e = .returned (.tuple #[]) ∧ Kp g w w' ∧ ∃ M, Srt lt M ∧ SO lt B M ∧ Rw g cap n w' (A ++ M ++ D) := by
  have h0 : InsOut lt g cap n A B D 1 w := by
    refine ⟨B.take 1, ?_, SO.refl _, by rw [show A ++ B.take 1 ++ (B.drop 1 ++ D) = A ++ (B.take 1 ++ B.drop 1) ++ D from by simp only [List.append_assoc], List.take_append_drop]; exact hrow⟩
    cases B with
    | nil => exact List.Pairwise.nil
    | cons x r => simp; exact Srt.one x
  have hbn : b ≤ n := by have := hrow.len; simp at this; omega
  have Hw := Lib.hid hw
  replace C := Lib.hid C
  have HS := Lib.hid hS
  have HJ := Lib.hid hJ
  have Hab := Lib.hid (And.intro ha hb)
  have hab : a ≤ b := by omega
  clear hw hS hJ hrow ha hb
  go_enter Tryz.func144, Tryz.ntmps144
  go_wp2
  go_loopw [8] (fun vi wr => ∃ t : Nat, 1 ≤ t ∧ (t ≤ b - a ∨ t = 1) ∧ vi = .int .i64 ((a + t : Nat) : Int) ∧ Kp g w wr ∧ InsOut lt g cap n A B D t wr) (fun vi _ => b - (intOf vi).toNat)
  case atStart => exact ⟨1, by omega, .inr rfl, by go_num, Kp.refl _ _, h0⟩
  case round =>
    clear h0
    obtain ⟨t, ht1, ht2, rfl, hkp0, hout⟩ := hrel
    by_cases hlt : a + t < b
    · have htB : t < B.length := by have := Hab.out; omega
      have Ht3 := Lib.hid (show t + 1 ≤ b - a by omega)
      have d1 : decide (((a + t : Nat) : Int) < (b : Int)) = true := decide_eq_true (by omega)
      have hin0 := InsIn.of htB hout
      rw [← Hab.out.1] at hin0
      obtain ⟨X, hBX⟩ : ∃ X, B[t] = X := ⟨_, rfl⟩
      rw [hBX] at hin0
      have HBX := Lib.hid hBX
      have sX : S X := by rw [← hBX]; exact HS.out _ (List.getElem_mem htB)
      obtain ⟨i0, hi0⟩ : ∃ i0, a + t = i0 := ⟨_, rfl⟩
      rw [hi0] at hin0 hlt d1 ⊢
      have Hi0 := Lib.hid hi0
      have hi1 : a < i0 := by omega
      clear hout hBX hi0
      go_wp2
      go_loopw [9] (fun vj wr => ∃ j : Nat, a ≤ j ∧ j ≤ i0 ∧ vj = .int .i64 (j : Nat) ∧ Kp g w wr ∧ InsIn lt g cap n A B D t j X wr) (fun vj _ => (intOf vj).toNat)
      case atStart => exact ⟨i0, by omega, by omega, rfl, hkp0, hin0⟩
      case round =>
        clear hin0 hkp0
        obtain ⟨j, hja, hji, rfl, hkp, B1, B2, xs, q1, q2, q3, q4, q5, hrw⟩ := hrel
        have hJ := Lib.hid (C.out.keep _ _ HJ.out hkp)
        by_cases hgt0 : a < j
        · have hgt : decide ((a : Int) < (j : Int)) = true := decide_eq_true (by omega)
          rcases List.eq_nil_or_concat B1 with rfl | ⟨B0, Y, rfl⟩
          · exfalso
            have := Hab.out.1
            simp at q4
            omega
          rw [List.concat_eq_append] at q1 q2 q4 q5
          have hYB : Y ∈ B := by
            have : Y ∈ B.take t := q2.perm.mem_iff.2 (by simp)
            exact List.mem_of_mem_take this
          have sY : S Y := HS.out Y hYB
          have hj1 : j - 1 = (A ++ B0).length ∧ j = (A ++ B0).length + 1 := by simp at q4; simp; omega
          have e5 : xs = (A ++ B0) ++ Y :: X :: (B2 ++ (B.drop (t + 1) ++ D)) := by rw [q5]; simp only [List.append_assoc, List.cons_append, List.nil_append]
          have hX : xs[j]? = some X := by rw [e5, hj1.2, List.getElem?_append_right (by omega), Nat.add_sub_cancel_left]; rfl
          have hY : xs[j - 1]? = some Y := by rw [e5, hj1.1, List.getElem?_append_right (Nat.le_refl _), Nat.sub_self]; rfl
          have hjn : j < n := by rw [← hrw.len]; exact (List.getElem?_eq_some_iff.1 hX).1
          have Hswap := Lib.hid (show lt X Y = true → ∀ W, Rw g cap n W ((xs.set j Y).set (j - 1) X) → InsIn lt g cap n A B D t (j - 1) X W from fun hlt W hW => by
            refine ⟨B0, Y :: B2, _, by simpa using q1, by simpa using q2, fun y hy => ?_, by simp at hj1; omega, ?_, hW⟩
            · rcases List.mem_cons.1 hy with rfl | hy
              · exact hlt
              · exact q3 y hy
            · have hsw := swap_adj (A ++ B0) (B2 ++ (B.drop (t + 1) ++ D)) Y X
              have hcm : (xs.set j Y).set (j - 1) X = (xs.set (j - 1) X).set j Y := by rw [List.set_comm _ _ (by omega)]
              rw [hcm, e5, hj1.1, show j = (A ++ B0).length + 1 from hj1.2]
              rw [hsw]
              simp only [List.append_assoc, List.cons_append])
          have Hfin := Lib.hid (show lt X Y = false → _ from fun hlt => InsIn.fin (A := A) (D := D) (xs := xs) Hw.out htB q1 q2 (by rw [HBX.out]; exact q3) (by rw [HBX.out]; exact q5) (by rw [HBX.out]; exact InsIn.last Hw.out (by simpa using q1) hlt))
          clear q1 q2 q3 q4 q5 hYB hj1 e5
          obtain ⟨bb, hbb0⟩ : ∃ bb, lt X Y = bb := ⟨_, rfl⟩
          have hbb := Lib.hid hbb0
          clear hbb0
          cases bb
          case true =>
            replace Hswap := Lib.hid (Hswap.out hbb.out)
            go_wp2_with fail
            refine wp_drawn (by kernel_rfl) (fun i => match i with | 0 => Ty.is (.int .i64 (j : Nat)) | 1 => Ty.is (.int .i64 (a : Nat)) | 2 => Ty.is (.bool true) | 3 => Ty.is (.bool true) | 4 => TGd (true = true) (Ty.is (fv)) | 5 => TGd (true = true) (Ty.is (.slice (some ⟨g, 0, none⟩) n cap)) | 6 => TGd (true = true) (Ty.is (.int .i64 (j : Nat))) | 7 => TGd (true = true) (TCells (pairEl.E X)) | 8 => TGd (true = true) (Ty.is (.agg (pairEl.E X).toArray)) | 9 => TGd (true = true) (Ty.is (.slice (some ⟨g, 0, none⟩) n cap)) | 10 => TGd (true = true) (Ty.is (.int .i64 (j : Nat))) | 11 => TGd (true = true) (Ty.is (.int .i64 ((j - 1 : Nat) : Int))) | 12 => TGd (true = true) (TCells (pairEl.E Y)) | 13 => TGd (true = true) (Ty.is (.agg (pairEl.E Y).toArray)) | 14 => TGd (true = true) (TLt true) | 15 => TGd (true = true) (Ty.is (.bool true)) | 16 => Ty.is (.bool true) | _ => Ty.any) (by kernel_rfl) rfl ?_
            intro v
            refine ⟨?_, ?_, ?_, ?_, ?_, ?_, ?_, ?_, ?_, ?_, ?_, ?_, ?_, ?_, ?_, ?_, ?_, ?_⟩
            · intro wq hq hd
              refine ob_plain rfl ?_
              exact yld_move (.tmp 9) rfl rfl rfl
            · intro wq hq hd
              refine ob_plain rfl ?_
              exact yld_move (.tmp 1) rfl rfl rfl
            · intro wq hq hd
              obtain ⟨h0, h1, -⟩ := hd
              change v 0 = _ at h0
              change v 1 = _ at h1
              refine ob_plain rfl ?_
              exact yld_binInt .gtr 3 3 (.tmp 18) (.tmp 19) rfl _ _ h0 h1 (fun w => by rw [run_gtr_i64, hgt]) rfl
            · intro wq hq hd
              obtain ⟨h0, -⟩ := hd
              change v 2 = _ at h0
              refine ob_plain rfl ?_
              exact yld_move (.tmp 20) rfl h0 rfl
            · intro wq hq hd
              obtain ⟨h0, -⟩ := hd
              change v 3 = _ at h0
              refine ob_guard 3 true (true) rfl (yields_of rfl h0) (fun hg => ?_) (fun hg => ?_)
              · refine Yld.gd (p := true = true) (T := Ty.is (fv)) ?_
                exact yld_move (.tmp 3) rfl rfl rfl
              · intro hn; rw [hn] at hg; cases hg
            · intro wq hq hd
              obtain ⟨h0, -⟩ := hd
              change v 3 = _ at h0
              refine ob_guard 3 true (true) rfl (yields_of rfl h0) (fun hg => ?_) (fun hg => ?_)
              · refine Yld.gd (p := true = true) (T := Ty.is (.slice (some ⟨g, 0, none⟩) n cap)) ?_
                exact yld_move (.tmp 0) rfl rfl rfl
              · intro hn; rw [hn] at hg; cases hg
            · intro wq hq hd
              obtain ⟨h0, -⟩ := hd
              change v 3 = _ at h0
              refine ob_guard 3 true (true) rfl (yields_of rfl h0) (fun hg => ?_) (fun hg => ?_)
              · refine Yld.gd (p := true = true) (T := Ty.is (.int .i64 (j : Nat))) ?_
                exact yld_move (.tmp 9) rfl rfl rfl
              · intro hn; rw [hn] at hg; cases hg
            · intro wq hq hd
              obtain ⟨h0, h1, h2, -⟩ := hd
              change (true = true) → v 5 = _ at h0
              change (true = true) → v 6 = _ at h1
              change v 3 = _ at h2
              refine ob_guard 3 true (true) rfl (yields_of rfl h2) (fun hg => ?_) (fun hg => ?_)
              · refine Yld.gd (p := true = true) (T := TCells (pairEl.E X)) ?_
                replace h0 := h0 hg
                replace h1 := h1 hg
                exact yld_indexRw (.tmp 23) (.tmp 24) rfl h0 j h1 (hrw.ext hq) hX
              · intro hn; rw [hn] at hg; cases hg
            · intro wq hq hd
              obtain ⟨h0, h1, -⟩ := hd
              change (true = true) → (TCells (pairEl.E X)).p (v 7) wq at h0
              change v 3 = _ at h1
              refine ob_guard 3 true (true) rfl (yields_of rfl h1) (fun hg => ?_) (fun hg => ?_)
              · refine Yld.gd (p := true = true) (T := Ty.is (.agg (pairEl.E X).toArray)) ?_
                replace h0 := h0 hg
                exact yld_loadRw (.tmp 25) rfl h0
              · intro hn; rw [hn] at hg; cases hg
            · intro wq hq hd
              obtain ⟨h0, -⟩ := hd
              change v 3 = _ at h0
              refine ob_guard 3 true (true) rfl (yields_of rfl h0) (fun hg => ?_) (fun hg => ?_)
              · refine Yld.gd (p := true = true) (T := Ty.is (.slice (some ⟨g, 0, none⟩) n cap)) ?_
                exact yld_move (.tmp 0) rfl rfl rfl
              · intro hn; rw [hn] at hg; cases hg
            · intro wq hq hd
              obtain ⟨h0, -⟩ := hd
              change v 3 = _ at h0
              refine ob_guard 3 true (true) rfl (yields_of rfl h0) (fun hg => ?_) (fun hg => ?_)
              · refine Yld.gd (p := true = true) (T := Ty.is (.int .i64 (j : Nat))) ?_
                exact yld_move (.tmp 9) rfl rfl rfl
              · intro hn; rw [hn] at hg; cases hg
            · intro wq hq hd
              obtain ⟨h0, h1, -⟩ := hd
              change (true = true) → v 10 = _ at h0
              change v 3 = _ at h1
              refine ob_guard 3 true (true) rfl (yields_of rfl h1) (fun hg => ?_) (fun hg => ?_)
              · refine Yld.gd (p := true = true) (T := Ty.is (.int .i64 ((j - 1 : Nat) : Int))) ?_
                replace h0 := h0 hg
                exact yld_binInt .sub 3 3 (.tmp 28) _ rfl _ _ h0 rfl (bin_sub _ _ _ _ (by omega) (by omega) (by omega)) rfl
              · intro hn; rw [hn] at hg; cases hg
            · intro wq hq hd
              obtain ⟨h0, h1, h2, -⟩ := hd
              change (true = true) → v 9 = _ at h0
              change (true = true) → v 11 = _ at h1
              change v 3 = _ at h2
              refine ob_guard 3 true (true) rfl (yields_of rfl h2) (fun hg => ?_) (fun hg => ?_)
              · refine Yld.gd (p := true = true) (T := TCells (pairEl.E Y)) ?_
                replace h0 := h0 hg
                replace h1 := h1 hg
                exact yld_indexRw (.tmp 27) (.tmp 29) rfl h0 (j - 1) h1 (hrw.ext hq) hY
              · intro hn; rw [hn] at hg; cases hg
            · intro wq hq hd
              obtain ⟨h0, h1, -⟩ := hd
              change (true = true) → (TCells (pairEl.E Y)).p (v 12) wq at h0
              change v 3 = _ at h1
              refine ob_guard 3 true (true) rfl (yields_of rfl h1) (fun hg => ?_) (fun hg => ?_)
              · refine Yld.gd (p := true = true) (T := Ty.is (.agg (pairEl.E Y).toArray)) ?_
                replace h0 := h0 hg
                exact yld_loadRw (.tmp 30) rfl h0
              · intro hn; rw [hn] at hg; cases hg
            · intro wq hq hd
              obtain ⟨h0, h1, h2, h3, h4, -⟩ := hd
              change (true = true) → v 4 = _ at h0
              change (true = true) → v 8 = _ at h1
              change (true = true) → v 13 = _ at h2
              change v 3 = _ at h3
              refine ob_guard 3 true (true) rfl (yields_of rfl h3) (fun hg => ?_) (fun hg => ?_)
              · refine Yld.gd (p := true = true) (T := TLt true) ?_
                replace h0 := h0 hg
                replace h1 := h1 hg
                replace h2 := h2 hg
                exact hbb.out ▸ yld_cmp C.out (.tmp 22) (.tmp 26) (.tmp 31) _ rfl h0 h1 h2 sX sY (C.out.keep _ _ hJ.out (Kp.of_ext hq))
              · intro hn; rw [hn] at hg; cases hg
            · intro wq hq hd
              obtain ⟨h0, h1, -⟩ := hd
              change (true = true) → (TLt true).p (v 14) wq at h0
              change v 3 = _ at h1
              refine ob_guard 3 true (true) rfl (yields_of rfl h1) (fun hg => ?_) (fun hg => ?_)
              · refine Yld.gd (p := true = true) (T := Ty.is (.bool true)) ?_
                replace h0 := h0 hg
                exact yld_neg _ _ (.tmp 32) _ rfl _ h0 rfl
              · intro hn; rw [hn] at hg; cases hg
            · intro wq hq hd
              obtain ⟨h0, h1, -⟩ := hd
              change v 3 = _ at h0
              change (true = true) → v 15 = _ at h1
              refine ob_plain rfl ?_
              exact yld_and (.tmp 21) (.tmp 33) rfl rfl _ _ h0 (fun hgd => h1 hgd) rfl
            · intro wq hq hT
              have k16 := hT 16 (by decide)
              change v 16 = _ at k16
              clear hT
              simp only [List.drop_succ_cons, List.drop_zero, putE, setsE, List.set_cons_succ, List.set_cons_zero, Nat.reduceAdd]
              rw [k16]
              have hrwq : Rw g cap n wq xs := hrw.ext hq
              go_wp2_with fail
              refine wp_drawn_store 16 15 [0, 1, 5, 6, 7, 8, 9, 10, 11, 12, 13, 14] (fun i => match i with | 0 => .slice (some ⟨g, 0, none⟩) n cap | 1 => .int .i64 ((j : Nat) : Int) | 2 => .slice (some ⟨g, 0, none⟩) n cap | 3 => .int .i64 ((j : Nat) : Int) | 4 => .int .i64 ((j - 1 : Nat) : Int) | 5 => .slice (some ⟨g, 0, none⟩) n cap | 6 => .int .i64 ((j : Nat) : Int) | 7 => .int .i64 ((j - 1 : Nat) : Int) | 8 => .pointer (some ⟨g, (j - 1) * 8, none⟩) | 9 => .agg (pairEl.E Y).toArray | 10 => .slice (some ⟨g, 0, none⟩) n cap | 11 => .int .i64 ((j : Nat) : Int) | 12 => .pointer (some ⟨g, (j) * 8, none⟩) | 13 => .agg (pairEl.E X).toArray | 14 => .pointer (some ⟨g, (j) * 8, none⟩) | 15 => undef | _ => undef) (by kernel_rfl) (by kernel_rfl) (by kernel_rfl) (by kernel_rfl) (by decide) (by decide) rfl ?_
              intro W hW
              obtain ⟨W1, hk1, ho1, hs1⟩ := (hrwq.ext hW).store (j) (by omega) Y
              refine ⟨W1, ?_⟩
              refine ⟨rfl, obl_any (by decide) (fun _ => runs_move (.tmp 0) rfl rfl), ?_⟩
              refine ⟨rfl, obl_any (by decide) (fun _ => runs_move (.tmp 9) rfl rfl), ?_⟩
              refine ⟨rfl, obl_any (by decide) (fun _ => runs_move (.tmp 0) rfl rfl), ?_⟩
              refine ⟨rfl, obl_any (by decide) (fun _ => runs_move (.tmp 9) rfl rfl), ?_⟩
              refine ⟨rfl, obl_any (by decide) (fun _ => runs_bin .sub _ _ (.tmp 40) _ rfl _ _ rfl rfl (bin_sub _ _ _ _ (by omega) (by omega) (by omega))), ?_⟩
              refine ⟨rfl, obl_any (by decide) (fun _ => runs_move (.tmp 0) rfl rfl), ?_⟩
              refine ⟨rfl, obl_any (by decide) (fun _ => runs_move (.tmp 9) rfl rfl), ?_⟩
              refine ⟨rfl, obl_any (by decide) (fun _ => runs_bin .sub _ _ (.tmp 43) _ rfl _ _ rfl rfl (bin_sub _ _ _ _ (by omega) (by omega) (by omega))), ?_⟩
              refine ⟨rfl, obl_any (by decide) (fun _ => (runs_index pairEl (.tmp 42) (.tmp 44) rfl n rfl (j - 1) rfl (by omega))), ?_⟩
              refine ⟨rfl, obl_early (by decide) (by decide) (runs_load pairEl rfl (.tmp 45) rfl (j - 1) rfl ((hrwq.ext hW).o) _ (hY)), ?_⟩
              refine ⟨rfl, obl_any (by decide) (fun _ => runs_move (.tmp 0) rfl rfl), ?_⟩
              refine ⟨rfl, obl_any (by decide) (fun _ => runs_move (.tmp 9) rfl rfl), ?_⟩
              refine ⟨rfl, obl_any (by decide) (fun _ => (runs_index pairEl (.tmp 47) (.tmp 48) rfl n rfl (j) rfl (by omega))), ?_⟩
              refine ⟨rfl, obl_early (by decide) (by decide) (runs_load pairEl rfl (.tmp 49) rfl (j) rfl ((hrwq.ext hW).o) _ (hX)), ?_⟩
              refine ⟨rfl, obl_any (by decide) (fun _ => (runs_index pairEl (.tmp 37) (.tmp 38) rfl n rfl (j) rfl (by omega))), ?_⟩
              refine ⟨rfl, obl_store rfl (hs1 _ _ (.tmp 51) (.tmp 46) rfl rfl rfl), ?_⟩
              refine OblsSE.nil ?_
              simp only [List.drop_succ_cons, List.drop_zero, putE, setsE, List.set_cons_succ, List.set_cons_zero, Nat.reduceAdd]
              refine wpList_runs rfl (runs_index pairEl (.tmp 39) (.tmp 41) rfl n rfl (j - 1) rfl (by omega)) ?_
              obtain ⟨W2, hk2, ho2, hs2⟩ := ho1.store (j - 1) (by omega) X
              refine wpList_runs rfl (hs2 _ _ (.tmp 52) (.tmp 50) rfl rfl rfl) ?_
              have hrw2 : Rw g cap n W2 ((xs.set j Y).set (j - 1) X) := ho2
              have hkp2 : Kp g w W2 := hkp.trans ((Kp.of_ext hq).trans ((Kp.of_ext hW).trans (hk1.trans hk2)))
              have hst2 := Hswap.out W2 hrw2
              clear hs1 hs2 hk1 hk2 ho1 ho2 hX hY hrw hrwq hkp Hswap Hfin
              go_wp2
              go_roundw
              case rel => exact ⟨j - 1, by omega, by omega, by go_num, hkp2, hst2⟩
              case measure => simp [intOf]; omega
          case false =>
            go_wp2_with fail
            refine wp_drawn (by kernel_rfl) (fun i => match i with | 0 => Ty.is (.int .i64 (j : Nat)) | 1 => Ty.is (.int .i64 (a : Nat)) | 2 => Ty.is (.bool true) | 3 => Ty.is (.bool true) | 4 => TGd (true = true) (Ty.is (fv)) | 5 => TGd (true = true) (Ty.is (.slice (some ⟨g, 0, none⟩) n cap)) | 6 => TGd (true = true) (Ty.is (.int .i64 (j : Nat))) | 7 => TGd (true = true) (TCells (pairEl.E X)) | 8 => TGd (true = true) (Ty.is (.agg (pairEl.E X).toArray)) | 9 => TGd (true = true) (Ty.is (.slice (some ⟨g, 0, none⟩) n cap)) | 10 => TGd (true = true) (Ty.is (.int .i64 (j : Nat))) | 11 => TGd (true = true) (Ty.is (.int .i64 ((j - 1 : Nat) : Int))) | 12 => TGd (true = true) (TCells (pairEl.E Y)) | 13 => TGd (true = true) (Ty.is (.agg (pairEl.E Y).toArray)) | 14 => TGd (true = true) (TLt false) | 15 => TGd (true = true) (Ty.is (.bool false)) | 16 => Ty.is (.bool false) | _ => Ty.any) (by kernel_rfl) rfl ?_
            intro v
            refine ⟨?_, ?_, ?_, ?_, ?_, ?_, ?_, ?_, ?_, ?_, ?_, ?_, ?_, ?_, ?_, ?_, ?_, ?_⟩
            · intro wq hq hd
              refine ob_plain rfl ?_
              exact yld_move (.tmp 9) rfl rfl rfl
            · intro wq hq hd
              refine ob_plain rfl ?_
              exact yld_move (.tmp 1) rfl rfl rfl
            · intro wq hq hd
              obtain ⟨h0, h1, -⟩ := hd
              change v 0 = _ at h0
              change v 1 = _ at h1
              refine ob_plain rfl ?_
              exact yld_binInt .gtr 3 3 (.tmp 18) (.tmp 19) rfl _ _ h0 h1 (fun w => by rw [run_gtr_i64, hgt]) rfl
            · intro wq hq hd
              obtain ⟨h0, -⟩ := hd
              change v 2 = _ at h0
              refine ob_plain rfl ?_
              exact yld_move (.tmp 20) rfl h0 rfl
            · intro wq hq hd
              obtain ⟨h0, -⟩ := hd
              change v 3 = _ at h0
              refine ob_guard 3 true (true) rfl (yields_of rfl h0) (fun hg => ?_) (fun hg => ?_)
              · refine Yld.gd (p := true = true) (T := Ty.is (fv)) ?_
                exact yld_move (.tmp 3) rfl rfl rfl
              · intro hn; rw [hn] at hg; cases hg
            · intro wq hq hd
              obtain ⟨h0, -⟩ := hd
              change v 3 = _ at h0
              refine ob_guard 3 true (true) rfl (yields_of rfl h0) (fun hg => ?_) (fun hg => ?_)
              · refine Yld.gd (p := true = true) (T := Ty.is (.slice (some ⟨g, 0, none⟩) n cap)) ?_
                exact yld_move (.tmp 0) rfl rfl rfl
              · intro hn; rw [hn] at hg; cases hg
            · intro wq hq hd
              obtain ⟨h0, -⟩ := hd
              change v 3 = _ at h0
              refine ob_guard 3 true (true) rfl (yields_of rfl h0) (fun hg => ?_) (fun hg => ?_)
              · refine Yld.gd (p := true = true) (T := Ty.is (.int .i64 (j : Nat))) ?_
                exact yld_move (.tmp 9) rfl rfl rfl
              · intro hn; rw [hn] at hg; cases hg
            · intro wq hq hd
              obtain ⟨h0, h1, h2, -⟩ := hd
              change (true = true) → v 5 = _ at h0
              change (true = true) → v 6 = _ at h1
              change v 3 = _ at h2
              refine ob_guard 3 true (true) rfl (yields_of rfl h2) (fun hg => ?_) (fun hg => ?_)
              · refine Yld.gd (p := true = true) (T := TCells (pairEl.E X)) ?_
                replace h0 := h0 hg
                replace h1 := h1 hg
                exact yld_indexRw (.tmp 23) (.tmp 24) rfl h0 j h1 (hrw.ext hq) hX
              · intro hn; rw [hn] at hg; cases hg
            · intro wq hq hd
              obtain ⟨h0, h1, -⟩ := hd
              change (true = true) → (TCells (pairEl.E X)).p (v 7) wq at h0
              change v 3 = _ at h1
              refine ob_guard 3 true (true) rfl (yields_of rfl h1) (fun hg => ?_) (fun hg => ?_)
              · refine Yld.gd (p := true = true) (T := Ty.is (.agg (pairEl.E X).toArray)) ?_
                replace h0 := h0 hg
                exact yld_loadRw (.tmp 25) rfl h0
              · intro hn; rw [hn] at hg; cases hg
            · intro wq hq hd
              obtain ⟨h0, -⟩ := hd
              change v 3 = _ at h0
              refine ob_guard 3 true (true) rfl (yields_of rfl h0) (fun hg => ?_) (fun hg => ?_)
              · refine Yld.gd (p := true = true) (T := Ty.is (.slice (some ⟨g, 0, none⟩) n cap)) ?_
                exact yld_move (.tmp 0) rfl rfl rfl
              · intro hn; rw [hn] at hg; cases hg
            · intro wq hq hd
              obtain ⟨h0, -⟩ := hd
              change v 3 = _ at h0
              refine ob_guard 3 true (true) rfl (yields_of rfl h0) (fun hg => ?_) (fun hg => ?_)
              · refine Yld.gd (p := true = true) (T := Ty.is (.int .i64 (j : Nat))) ?_
                exact yld_move (.tmp 9) rfl rfl rfl
              · intro hn; rw [hn] at hg; cases hg
            · intro wq hq hd
              obtain ⟨h0, h1, -⟩ := hd
              change (true = true) → v 10 = _ at h0
              change v 3 = _ at h1
              refine ob_guard 3 true (true) rfl (yields_of rfl h1) (fun hg => ?_) (fun hg => ?_)
              · refine Yld.gd (p := true = true) (T := Ty.is (.int .i64 ((j - 1 : Nat) : Int))) ?_
                replace h0 := h0 hg
                exact yld_binInt .sub 3 3 (.tmp 28) _ rfl _ _ h0 rfl (bin_sub _ _ _ _ (by omega) (by omega) (by omega)) rfl
              · intro hn; rw [hn] at hg; cases hg
            · intro wq hq hd
              obtain ⟨h0, h1, h2, -⟩ := hd
              change (true = true) → v 9 = _ at h0
              change (true = true) → v 11 = _ at h1
              change v 3 = _ at h2
              refine ob_guard 3 true (true) rfl (yields_of rfl h2) (fun hg => ?_) (fun hg => ?_)
              · refine Yld.gd (p := true = true) (T := TCells (pairEl.E Y)) ?_
                replace h0 := h0 hg
                replace h1 := h1 hg
                exact yld_indexRw (.tmp 27) (.tmp 29) rfl h0 (j - 1) h1 (hrw.ext hq) hY
              · intro hn; rw [hn] at hg; cases hg
            · intro wq hq hd
              obtain ⟨h0, h1, -⟩ := hd
              change (true = true) → (TCells (pairEl.E Y)).p (v 12) wq at h0
              change v 3 = _ at h1
              refine ob_guard 3 true (true) rfl (yields_of rfl h1) (fun hg => ?_) (fun hg => ?_)
              · refine Yld.gd (p := true = true) (T := Ty.is (.agg (pairEl.E Y).toArray)) ?_
                replace h0 := h0 hg
                exact yld_loadRw (.tmp 30) rfl h0
              · intro hn; rw [hn] at hg; cases hg
            · intro wq hq hd
              obtain ⟨h0, h1, h2, h3, h4, -⟩ := hd
              change (true = true) → v 4 = _ at h0
              change (true = true) → v 8 = _ at h1
              change (true = true) → v 13 = _ at h2
              change v 3 = _ at h3
              refine ob_guard 3 true (true) rfl (yields_of rfl h3) (fun hg => ?_) (fun hg => ?_)
              · refine Yld.gd (p := true = true) (T := TLt false) ?_
                replace h0 := h0 hg
                replace h1 := h1 hg
                replace h2 := h2 hg
                exact hbb.out ▸ yld_cmp C.out (.tmp 22) (.tmp 26) (.tmp 31) _ rfl h0 h1 h2 sX sY (C.out.keep _ _ hJ.out (Kp.of_ext hq))
              · intro hn; rw [hn] at hg; cases hg
            · intro wq hq hd
              obtain ⟨h0, h1, -⟩ := hd
              change (true = true) → (TLt false).p (v 14) wq at h0
              change v 3 = _ at h1
              refine ob_guard 3 true (true) rfl (yields_of rfl h1) (fun hg => ?_) (fun hg => ?_)
              · refine Yld.gd (p := true = true) (T := Ty.is (.bool false)) ?_
                replace h0 := h0 hg
                exact yld_neg _ _ (.tmp 32) _ rfl _ h0 rfl
              · intro hn; rw [hn] at hg; cases hg
            · intro wq hq hd
              obtain ⟨h0, h1, -⟩ := hd
              change v 3 = _ at h0
              change (true = true) → v 15 = _ at h1
              refine ob_plain rfl ?_
              exact yld_and (.tmp 21) (.tmp 33) rfl rfl _ _ h0 (fun hgd => h1 hgd) rfl
            · intro wq hq hT
              have k16 := hT 16 (by decide)
              change v 16 = _ at k16
              clear hT
              simp only [List.drop_succ_cons, List.drop_zero, putE, setsE, List.set_cons_succ, List.set_cons_zero, Nat.reduceAdd]
              rw [k16]
              have hfin := Hfin.out hbb.out
              obtain ⟨M', hf1, hf2, hf3⟩ := hfin
              have hrw2 : Rw g cap n wq xs := hrw.ext hq
              rw [hf3] at hrw2
              have hkp2 : Kp g w wq := hkp.trans (Kp.of_ext hq)
              have hfs : InsOut lt g cap n A B D (t + 1) wq := ⟨M', hf1, hf2, hrw2⟩
              clear hX hY hrw hkp hf1 hf2 hf3 hrw2 Hswap Hfin
              go_wp2
              go_roundw
              case rel =>
                have hi0 := Hi0.out
                exact ⟨t + 1, by omega, .inl Ht3.out, by go_num, hkp2, hfs⟩
              case measure => have hi0 := Hi0.out; simp [intOf]; omega
        · have hje : j = a := by omega
          have hgt : decide ((a : Int) < (j : Int)) = false := decide_eq_false (by omega)
          have hB1 : B1 = [] := List.eq_nil_of_length_eq_zero (by have := Hab.out.1; omega)
          subst hB1
          have Hfin := Lib.hid (InsIn.fin (A := A) (D := D) (xs := xs) Hw.out htB q1 q2 (by rw [HBX.out]; exact q3) (by rw [HBX.out]; exact q5) (by simp))
          clear q1 q2 q3 q4 q5 hje hgt0
          go_wp2_with fail
          refine wp_drawn (by kernel_rfl) (fun i => match i with | 0 => Ty.is (.int .i64 (j : Nat)) | 1 => Ty.is (.int .i64 (a : Nat)) | 2 => Ty.is (.bool false) | 3 => Ty.is (.bool false) | 4 => TGd (false = true) (Ty.any) | 5 => TGd (false = true) (Ty.any) | 6 => TGd (false = true) (Ty.any) | 7 => TGd (false = true) (Ty.any) | 8 => TGd (false = true) (Ty.any) | 9 => TGd (false = true) (Ty.any) | 10 => TGd (false = true) (Ty.any) | 11 => TGd (false = true) (Ty.any) | 12 => TGd (false = true) (Ty.any) | 13 => TGd (false = true) (Ty.any) | 14 => TGd (false = true) (Ty.any) | 15 => TGd (false = true) (Ty.any) | 16 => Ty.is (.bool false) | _ => Ty.any) (by kernel_rfl) rfl ?_
          intro v
          refine ⟨?_, ?_, ?_, ?_, ?_, ?_, ?_, ?_, ?_, ?_, ?_, ?_, ?_, ?_, ?_, ?_, ?_, ?_⟩
          · intro wq hq hd
            refine ob_plain rfl ?_
            exact yld_move (.tmp 9) rfl rfl rfl
          · intro wq hq hd
            refine ob_plain rfl ?_
            exact yld_move (.tmp 1) rfl rfl rfl
          · intro wq hq hd
            obtain ⟨h0, h1, -⟩ := hd
            change v 0 = _ at h0
            change v 1 = _ at h1
            refine ob_plain rfl ?_
            exact yld_binInt .gtr 3 3 (.tmp 18) (.tmp 19) rfl _ _ h0 h1 (fun w => by rw [run_gtr_i64, hgt]) rfl
          · intro wq hq hd
            obtain ⟨h0, -⟩ := hd
            change v 2 = _ at h0
            refine ob_plain rfl ?_
            exact yld_move (.tmp 20) rfl h0 rfl
          · intro wq hq hd
            obtain ⟨h0, -⟩ := hd
            change v 3 = _ at h0
            refine ob_guard 3 true (false) rfl (yields_of rfl h0) (fun hg => ?_) (fun hg => ?_)
            · refine Yld.gd (p := false = true) (T := Ty.any) ?_
              cases hg
            · intro hn; rw [hn] at hg; cases hg
          · intro wq hq hd
            obtain ⟨h0, -⟩ := hd
            change v 3 = _ at h0
            refine ob_guard 3 true (false) rfl (yields_of rfl h0) (fun hg => ?_) (fun hg => ?_)
            · refine Yld.gd (p := false = true) (T := Ty.any) ?_
              cases hg
            · intro hn; rw [hn] at hg; cases hg
          · intro wq hq hd
            obtain ⟨h0, -⟩ := hd
            change v 3 = _ at h0
            refine ob_guard 3 true (false) rfl (yields_of rfl h0) (fun hg => ?_) (fun hg => ?_)
            · refine Yld.gd (p := false = true) (T := Ty.any) ?_
              cases hg
            · intro hn; rw [hn] at hg; cases hg
          · intro wq hq hd
            obtain ⟨h0, h1, h2, -⟩ := hd
            change v 3 = _ at h2
            refine ob_guard 3 true (false) rfl (yields_of rfl h2) (fun hg => ?_) (fun hg => ?_)
            · refine Yld.gd (p := false = true) (T := Ty.any) ?_
              cases hg
            · intro hn; rw [hn] at hg; cases hg
          · intro wq hq hd
            obtain ⟨h0, h1, -⟩ := hd
            change v 3 = _ at h1
            refine ob_guard 3 true (false) rfl (yields_of rfl h1) (fun hg => ?_) (fun hg => ?_)
            · refine Yld.gd (p := false = true) (T := Ty.any) ?_
              cases hg
            · intro hn; rw [hn] at hg; cases hg
          · intro wq hq hd
            obtain ⟨h0, -⟩ := hd
            change v 3 = _ at h0
            refine ob_guard 3 true (false) rfl (yields_of rfl h0) (fun hg => ?_) (fun hg => ?_)
            · refine Yld.gd (p := false = true) (T := Ty.any) ?_
              cases hg
            · intro hn; rw [hn] at hg; cases hg
          · intro wq hq hd
            obtain ⟨h0, -⟩ := hd
            change v 3 = _ at h0
            refine ob_guard 3 true (false) rfl (yields_of rfl h0) (fun hg => ?_) (fun hg => ?_)
            · refine Yld.gd (p := false = true) (T := Ty.any) ?_
              cases hg
            · intro hn; rw [hn] at hg; cases hg
          · intro wq hq hd
            obtain ⟨h0, h1, -⟩ := hd
            change v 3 = _ at h1
            refine ob_guard 3 true (false) rfl (yields_of rfl h1) (fun hg => ?_) (fun hg => ?_)
            · refine Yld.gd (p := false = true) (T := Ty.any) ?_
              cases hg
            · intro hn; rw [hn] at hg; cases hg
          · intro wq hq hd
            obtain ⟨h0, h1, h2, -⟩ := hd
            change v 3 = _ at h2
            refine ob_guard 3 true (false) rfl (yields_of rfl h2) (fun hg => ?_) (fun hg => ?_)
            · refine Yld.gd (p := false = true) (T := Ty.any) ?_
              cases hg
            · intro hn; rw [hn] at hg; cases hg
          · intro wq hq hd
            obtain ⟨h0, h1, -⟩ := hd
            change v 3 = _ at h1
            refine ob_guard 3 true (false) rfl (yields_of rfl h1) (fun hg => ?_) (fun hg => ?_)
            · refine Yld.gd (p := false = true) (T := Ty.any) ?_
              cases hg
            · intro hn; rw [hn] at hg; cases hg
          · intro wq hq hd
            obtain ⟨h0, h1, h2, h3, h4, -⟩ := hd
            change v 3 = _ at h3
            refine ob_guard 3 true (false) rfl (yields_of rfl h3) (fun hg => ?_) (fun hg => ?_)
            · refine Yld.gd (p := false = true) (T := Ty.any) ?_
              cases hg
            · intro hn; rw [hn] at hg; cases hg
          · intro wq hq hd
            obtain ⟨h0, h1, -⟩ := hd
            change v 3 = _ at h1
            refine ob_guard 3 true (false) rfl (yields_of rfl h1) (fun hg => ?_) (fun hg => ?_)
            · refine Yld.gd (p := false = true) (T := Ty.any) ?_
              cases hg
            · intro hn; rw [hn] at hg; cases hg
          · intro wq hq hd
            obtain ⟨h0, h1, -⟩ := hd
            change v 3 = _ at h0
            refine ob_plain rfl ?_
            exact yld_and (.tmp 21) (.tmp 33) rfl rfl false true h0 (fun hgd => by cases hgd) rfl
          · intro wq hq hT
            have k16 := hT 16 (by decide)
            change v 16 = _ at k16
            clear hT
            simp only [List.drop_succ_cons, List.drop_zero, putE, setsE, List.set_cons_succ, List.set_cons_zero, Nat.reduceAdd]
            rw [k16]
            have hfin := Hfin.out
            obtain ⟨M', hf1, hf2, hf3⟩ := hfin
            have hrw2 : Rw g cap n wq xs := hrw.ext hq
            rw [hf3] at hrw2
            have hkp2 : Kp g w wq := hkp.trans (Kp.of_ext hq)
            have hfs : InsOut lt g cap n A B D (t + 1) wq := ⟨M', hf1, hf2, hrw2⟩
            clear hrw hkp hf1 hf2 hf3 hrw2 Hfin
            go_wp2
            go_roundw
            case rel =>
              have hi0 := Hi0.out
              exact ⟨t + 1, by omega, .inl Ht3.out, by go_num, hkp2, hfs⟩
            case measure => have hi0 := Hi0.out; simp [intOf]; omega
    · have d1 : decide (((a + t : Nat) : Int) < (b : Int)) = false := decide_eq_false (by omega)
      obtain ⟨M, q1, q2, q3⟩ := hout
      have htB : B.length ≤ t := by have := Hab.out; omega
      rw [List.take_of_length_le htB] at q2
      rw [List.drop_of_length_le htB, List.nil_append] at q3
      go_wp2
      (try simp only [Exit.inBlock, Exit.then])
      refine bodyPost_end (results_none rfl _ _ _) rfl ?_
      exact ⟨rfl, hkp0, M, q1, q2, q3⟩
end Go.Proofs.YtjhdamjbljafhaaGreatDoor
