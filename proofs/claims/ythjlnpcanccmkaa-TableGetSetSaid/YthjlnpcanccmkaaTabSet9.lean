/- The law on Set and Get. -/
import Derived.Test.YthjlnpcanccmkaaAwake9
import Derived.Test.YthjlnpcanccmkaaSetLaw9
import Derived.Test.YthjlnpcanccmkaaTabVal9
namespace Go.Proofs.Ythjlnpcanccmkaa
open Go.RowKit

theorem small_wide {u : GUnit} (h : smallU u) : AllU (lensLe 1048576 1048576) u := AllU.mono (lens_up (by omega) (by omega)) _ (small_lens u h.2 (by have := h.1; omega))
theorem zero_lens : AllU (lensLe 9223372036854775807 9223372036854775807) zeroU := by
  unfold zeroU
  rw [AllU, AllUs]
  exact ⟨⟨by simp, by simp, by simp⟩, trivial⟩
theorem run_eql_bool (a : Bool) (w : World) : (binOp .eql 4 (.bool a) (.bool a)).run Try.prog w = .ok (.bool true) w := by
  have h : ∀ d : Nat, (Op.equalIn (d + 1) 4 (.bool a) (.bool a)).run Try.prog w = .ok true w := fun d => by
    simp [Op.equalIn, run_underlying Try.underlying4]
  simp only [binOp]
  simp [Op.equal, Op.maxDepth, h 9999]
/-- a unit that reads as the tree -/
def TRd (u : GUnit) : Ty := ⟨fun v w => ∃ r : RUnit, v = .agg r.cells.toArray ∧ Reads w u r, fun _ _ _ he ⟨r, h1, h2⟩ => ⟨r, h1, Reads.ext he _ _ h2⟩⟩
theorem there_nats {u : GUnit} {row col : Int} (h : thereB u row col = true) : ∃ i j : Nat, row = i ∧ col = j := by
  obtain ⟨-, h1, -, h3, -⟩ := there_parts2 h
  exact ⟨row.toNat, col.toNat, by omega, by omega⟩

set_option maxRecDepth 100000 in
set_option maxHeartbeats 3200000 in
theorem tableGetSet_law (u : GUnit) (r : RUnit) (row col a b : Int) (lA : Option Addr) (lc : Nat) (l : List GWord) (w : World) (hr : Reads w u r) (hsl : Sl wordEl w lA l) (hll : l.length ≤ 9223372036854775807) (hbig : AllU (lensLe 9223372036854775807 9223372036854775807) u) :
    Calls Try.prog 6 #[.agg r.cells.toArray, .int .i64 row, .int .i64 col, .slice lA l.length lc, .int .i64 a, .int .i64 b] w fun e w' => e = .returned (.bool true) ∧ Ext w w' := by
  have hx0 : Ext w (w.alloc (.cells r.cells.toArray 27)) := (Ext.refl w).alloc _
  have Hbu := Lib.hid (show ∀ w', Ext (w.alloc (.cells r.cells.toArray 27)) w' → _ from fun w' he => boxUnit (w' := w') r (w := w) he)
  have Hbt := Lib.hid (show ∀ w', Ext (w.alloc (.cells r.cells.toArray 27)) w' → _ from fun w' he => boxT (w' := w') r (w := w) he)
  have Hbigc := Lib.hid (show ∀ w', Ext w w' → _ from fun w' he => big_any u r w' (Reads.ext he _ _ hr) hbig)
  have Hru := Lib.hid (show ∀ w', Ext w w' → _ from fun w' he => Reads.ext he _ _ hr)
  obtain ⟨wz, hwz⟩ : ∃ wz, w.alloc (.cells r.cells.toArray 27) = wz := ⟨_, rfl⟩
  rw [hwz] at hx0 Hbu Hbt
  simp only [RUnit.cells] at hwz
  have Hwz := Lib.hid hwz
  simp only [RUnit.cells] at Hbigc Hbt ⊢
  clear hwz hbig hr
  go_enter Try.func6, Try.ntmps6
  go_wp2_with fail
  rw [Hwz.out]
  refine (awake9_any _).mono ?_
  rintro e w1 ⟨rfl, hx1⟩
  obtain ⟨-, u0, u1, u2, u3, u4, u5, u6, u7⟩ := Hbu.out w1 hx1
  go_wp2_with fail
  refine (Hbigc.out w1 (hx0.trans hx1)).mono ?_
  rintro e w2 ⟨b, rfl, hb, hx2⟩
  have hxz : Ext wz w2 := hx1.trans hx2
  have hw0 : Ext w w2 := hx0.trans hxz
  clear u0 u1 u2 u3 u4 u5 u6 u7 Hbigc hx0 hx1 hx2
  cases b
  case true =>
    clear hb
    go_wp2
    go_ret
    exact ⟨rfl, hw0⟩
  case false =>
    have hsm := hb rfl
    clear hb
    have Hb := Lib.hid (show ∀ w', Ext w2 w' → _ from fun w' he => Hbt.out w' (hxz.trans he))
    have Hbq := Lib.hid (show ∀ w', Ext w2 w' → _ from fun w' he => Hbu.out w' (hxz.trans he))
    have Hr := Lib.hid (show ∀ w', Ext w2 w' → _ from fun w' he => Hru.out w' (hw0.trans he))
    clear Hbt Hbu Hru
    by_cases h300 : l.length > 300
    case pos =>
      have d1 : decide ((l.length : Int) > 300) = true := decide_eq_true (by omega)
      go_wp2
      go_ret
      exact ⟨rfl, hw0⟩
    case neg =>
    have d1 : decide ((l.length : Int) > 300) = false := decide_eq_false (by omega)
    have hA := small_wide hsm
    have hs2 : Sl wordEl w2 lA l := hsl.ext hw0
    have Hsl := Lib.hid (show ∀ w', Ext w2 w' → _ from fun w' he => hs2.ext he)
    have Hg := Lib.hid (show ∀ w', Ext w2 w' → _ from fun w' he => get_wide u r a b w' (Hr.out w' he) hA)
    have Hs := Lib.hid (show ∀ w', Ext w2 w' → _ from fun w' he => set_any u r row col lA lc l w' (Hr.out w' he) (Hsl.out w' he) hA hll)
    have Hh := Lib.hid (show ∀ w', Ext w2 w' → _ from fun w' he => has_any u r row col w' (Hr.out w' he) (smallU_lens hsm))
    have hglen := getF_wide a b hA
    have hthe := fun (h : thereB u row col = true) => there_nats h
    obtain ⟨TB, hTB⟩ : ∃ TB, thereB u a b = TB := ⟨_, rfl⟩
    obtain ⟨G, hG⟩ : ∃ G, getF u a b = G := ⟨_, rfl⟩
    obtain ⟨HB, hHB⟩ : ∃ HB, thereB u row col = HB := ⟨_, rfl⟩
    have hok : okB u row col l = (HB && decide (l.length ≤ 256)) := by simp [okB, hHB]
    rw [hok] at Hs
    rw [hTB, hG] at Hg
    rw [hHB] at Hh hthe
    rw [hG] at hglen
    have HG := Lib.hid hG
    have HTB := Lib.hid hTB
    have HHB := Lib.hid hHB
    have Hok := Lib.hid hok
    have Hthe := Lib.hid hthe
    have Hglen := Lib.hid hglen
    have HA := Lib.hid hA
    simp only [RUnit.cells] at Hg Hs Hh
    clear hTB hG hHB hok hsm hA hs2 hthe hglen hsl h300
    obtain ⟨-, u0, u1, u2, u3, u4, u5, u6, u7⟩ := Hbq.out w2 (Ext.refl w2)
    go_wp2_with fail
    refine (Hg.out w2 (Ext.refl _)).mono ?_
    rintro e w3 ⟨v3, rfl, hown3, hx3⟩
    obtain ⟨A3, c3, rfl, -, hs3⟩ := hown3.form
    clear hown3
    clear u0 u1 u2 u3 u4 u5 u6 u7
    obtain ⟨-, u0, u1, u2, u3, u4, u5, u6, u7⟩ := Hbq.out w3 hx3
    go_wp2_with fail
    refine (Hs.out w3 hx3).mono ?_
    rintro e w4 ⟨r', rfl, hx4, hr'⟩
    have hx24 := hx3.trans hx4
    have Hr' := Lib.hid (show ∀ w', Ext w4 w' → _ from fun w' he => Reads.ext he _ _ hr')
    have Hbu' := Lib.hid (show ∀ w', Ext (w4.alloc (.cells r'.cells.toArray 27)) w' → _ from fun w' he => boxUnit (w' := w') r' (w := w4) he)
    have Hbt' := Lib.hid (show ∀ w', Ext (w4.alloc (.cells r'.cells.toArray 27)) w' → _ from fun w' he => boxT (w' := w') r' (w := w4) he)
    clear hr'
    simp only [RUnit.cells] at Hbu' Hbt' ⊢
    clear u0 u1 u2 u3 u4 u5 u6 u7
    have hx45 : Ext w4 (w4.alloc (.cells #[.int .i64 r'.a, .int .i64 r'.i, .int .i64 r'.n, .int .i64 r'.kind, .string r'.label, .slice r'.hA r'.hn r'.hc, .slice r'.wA r'.wn r'.wc, .slice r'.kA r'.kn r'.kc] 27)) := (Ext.refl _).alloc _
    obtain ⟨-, u0, u1, u2, u3, u4, u5, u6, u7⟩ := Hbq.out _ (hx24.trans hx45)
    go_wp2_with fail
    obtain ⟨w5, hw5⟩ : ∃ w5, w4.alloc (.cells #[.int .i64 r'.a, .int .i64 r'.i, .int .i64 r'.n, .int .i64 r'.kind, .string r'.label, .slice r'.hA r'.hn r'.hc, .slice r'.wA r'.wn r'.wc, .slice r'.kA r'.kn r'.kc] 27) = w5 := ⟨_, rfl⟩
    rw [hw5] at hx45 Hbu' Hbt' ⊢
    have hx25 := hx24.trans hx45
    clear u0 u1 u2 u3 u4 u5 u6 u7 hw5
    have nb := fun w => run_neq_bool TB w
    cases HB
    case false =>
      have hokf := Hok.out
      rw [Bool.false_and] at hokf
      have nf := fun w => run_neq_bool false w
      simp only [Bool.false_and]
      have hz : setF u row col l = zeroU := by simp [setF, hokf]
      rw [hz] at Hr'
      clear hz hokf
      refine (Hh.out w5 hx25).mono ?_
      rintro e w6 ⟨rfl, hx6⟩
      have hx26 := hx25.trans hx6
      obtain ⟨-, u0, u1, u2, u3, u4, u5, u6, u7⟩ := Hbq.out w6 hx26
      go_wp2_with fail
      refine (Hg.out w6 hx26).mono ?_
      rintro e w7 ⟨v7, rfl, hown7, hx7⟩
      obtain ⟨A7, c7, rfl, -, hs7⟩ := hown7.form
      have hx27 := hx26.trans hx7
      clear hown7 u0 u1 u2 u3 u4 u5 u6 u7
      go_wp2_with fail
      refine (words9_eq A3 A7 c3 c7 G _ (hs3.ext ((hx4.trans hx45).trans (hx6.trans hx7))) hs7 (by have := Hglen.out; omega)).mono ?_
      rintro e w8 ⟨rfl, hx8⟩
      have hx28 := hx27.trans hx8
      have hx58 := hx6.trans (hx7.trans hx8)
      obtain ⟨-, b0, b1, b2, b3, b4, b5, b6, b7⟩ := Hbu'.out w8 hx58
      go_wp2_with fail
      refine (same9_eq _ zeroU r' unit0 _ (Nat.le_refl _) (Hr'.out _ (hx45.trans hx58)) (zero_reads _) zero_lens).mono ?_
      rintro e w9 ⟨rfl, hx9⟩
      go_wp2
      go_ret
      exact ⟨rfl, hw0.trans (hx28.trans hx9)⟩
    case true =>
    simp only [Bool.true_and] at Hok ⊢
    by_cases h256 : l.length ≤ 256
    case neg =>
      have hokf := Hok.out
      have d2 : decide (l.length ≤ 256) = false := decide_eq_false h256
      have d3 : decide ((l.length : Int) ≤ 256) = false := decide_eq_false (by omega)
      rw [d2] at hokf ⊢
      have nf := fun w => run_neq_bool false w
      clear d2 h256
      have hz : setF u row col l = zeroU := by simp [setF, hokf]
      rw [hz] at Hr'
      clear hz hokf
      refine (Hh.out w5 hx25).mono ?_
      rintro e w6 ⟨rfl, hx6⟩
      have hx26 := hx25.trans hx6
      obtain ⟨-, u0, u1, u2, u3, u4, u5, u6, u7⟩ := Hbq.out w6 hx26
      go_wp2_with fail
      refine (Hg.out w6 hx26).mono ?_
      rintro e w7 ⟨v7, rfl, hown7, hx7⟩
      obtain ⟨A7, c7, rfl, -, hs7⟩ := hown7.form
      have hx27 := hx26.trans hx7
      clear hown7 u0 u1 u2 u3 u4 u5 u6 u7
      go_wp2_with fail
      refine (words9_eq A3 A7 c3 c7 G _ (hs3.ext ((hx4.trans hx45).trans (hx6.trans hx7))) hs7 (by have := Hglen.out; omega)).mono ?_
      rintro e w8 ⟨rfl, hx8⟩
      have hx28 := hx27.trans hx8
      have hx58 := hx6.trans (hx7.trans hx8)
      obtain ⟨-, b0, b1, b2, b3, b4, b5, b6, b7⟩ := Hbu'.out w8 hx58
      go_wp2_with fail
      refine (same9_eq _ zeroU r' unit0 _ (Nat.le_refl _) (Hr'.out _ (hx45.trans hx58)) (zero_reads _) zero_lens).mono ?_
      rintro e w9 ⟨rfl, hx9⟩
      go_wp2
      go_ret
      exact ⟨rfl, hw0.trans (hx28.trans hx9)⟩
    case pos =>
      have hokf := Hok.out
      have d2 : decide (l.length ≤ 256) = true := decide_eq_true h256
      have d3 : decide ((l.length : Int) ≤ 256) = true := decide_eq_true (by omega)
      rw [d2] at hokf ⊢
      have nf := fun w => run_neq_bool true w
      clear d2
      have hz : setF u row col l = setU u row.toNat col.toNat l := by simp [setF, hokf]
      have hHB := HHB.out
      obtain ⟨ni, nj, rfl, rfl⟩ := Hthe.out rfl
      simp only [Int.toNat_natCast] at hz
      have hAs := set_lens hHB (l := l) (by omega) HA.out
      have hga := fun w' he => get_wide (setU u ni nj l) r' ni nj w' (by have := Hr'.out w' he; rw [hz] at this; exact this) hAs
      have hgo := fun w' he => get_wide (setU u ni nj l) r' a b w' (by have := Hr'.out w' he; rw [hz] at this; exact this) hAs
      have hrs := fun w' he => refSet_any u r ni nj lA lc l w' (Hr.out w' he) (Hsl.out w' he) hHB (by omega)
      rw [← hz] at hrs
      rw [getF_set_same hHB, set_there hHB, hHB] at hga
      rw [set_there hHB, HTB.out] at hgo
      have hgg : (decide (a = (ni : Int)) && decide (b = (nj : Int))) = false → getF (setU u ni nj l) a b = G := fun h => by
        rw [← HG.out]
        refine getF_set_other hHB l fun e => ?_
        rw [decide_eq_true e.1, decide_eq_true e.2] at h
        cases h
      have hg2 := getF_wide a b hAs
      obtain ⟨G2, hG2⟩ : ∃ G2, getF (setU u ni nj l) a b = G2 := ⟨_, rfl⟩
      obtain ⟨row, hrow⟩ : ∃ row : Int, (ni : Int) = row := ⟨_, rfl⟩
      obtain ⟨col, hcol⟩ : ∃ col : Int, (nj : Int) = col := ⟨_, rfl⟩
      rw [hG2] at hgo hgg hg2
      rw [← hz] at hAs
      have hAs9 := AllU.mono (lens_up (c := 9223372036854775807) (d := 9223372036854775807) (by omega) (by omega)) _ hAs
      rw [hrow, hcol] at hga hgg hrs hAs9 Hr' Hh ⊢
      have Hga := Lib.hid hga
      have Hgo := Lib.hid hgo
      have Hrs := Lib.hid hrs
      have Hgg := Lib.hid hgg
      have Hg2 := Lib.hid hg2
      have HAs := Lib.hid hAs9
      simp only [RUnit.cells] at Hga Hgo Hrs
      clear hz hHB hAs hga hgo hrs hgg hg2 hG2 hAs9 hrow hcol hokf Hthe
      refine (Hh.out w5 hx25).mono ?_
      rintro e w6 ⟨rfl, hx6⟩
      have hx26 := hx25.trans hx6
      obtain ⟨-, u0, u1, u2, u3, u4, u5, u6, u7⟩ := Hbq.out w6 hx26
      go_wp2_with fail
      refine (Hg.out w6 hx26).mono ?_
      rintro e w7 ⟨v7, rfl, hown7, hx7⟩
      obtain ⟨A7, c7, rfl, -, hs7⟩ := hown7.form
      have hx27 := hx26.trans hx7
      clear hown7 u0 u1 u2 u3 u4 u5 u6 u7
      go_wp2_with fail
      refine (words9_eq A3 A7 c3 c7 G _ (hs3.ext ((hx4.trans hx45).trans (hx6.trans hx7))) hs7 (by have := Hglen.out; omega)).mono ?_
      rintro e w8 ⟨rfl, hx8⟩
      have hx28 := hx27.trans hx8
      have hx58 := hx6.trans (hx7.trans hx8)
      obtain ⟨-, b0, b1, b2, b3, b4, b5, b6, b7⟩ := Hbu'.out w8 hx58
      go_wp2_with fail
      refine (Hga.out w8 (hx45.trans hx58)).mono ?_
      rintro e w9 ⟨v9, rfl, hown9, hx9⟩
      obtain ⟨A9, c9, rfl, -, hs9⟩ := hown9.form
      have hx59 := hx58.trans hx9
      clear hown9 b0 b1 b2 b3 b4 b5 b6 b7
      obtain ⟨-, b0, b1, b2, b3, b4, b5, b6, b7⟩ := Hbu'.out w9 hx59
      go_wp2_with fail
      refine (Hgo.out w9 (hx45.trans hx59)).mono ?_
      rintro e w10 ⟨v10, rfl, hown10, hx10⟩
      obtain ⟨A10, c10, rfl, -, hs10⟩ := hown10.form
      have hx5q := hx59.trans hx10
      have hx4q := hx45.trans hx5q
      have hx3q := hx4.trans hx4q
      have hx2q := hx25.trans hx5q
      clear hown10 b0 b1 b2 b3 b4 b5 b6 b7 nb
      go_wp2
      refine wp_drawn (by kernel_rfl) (fun i => match i with | 0 => Ty.is (.agg #[.int .i64 r'.a, .int .i64 r'.i, .int .i64 r'.n, .int .i64 r'.kind, .string r'.label, .slice r'.hA r'.hn r'.hc, .slice r'.wA r'.wn r'.wc, .slice r'.kA r'.kn r'.kc]) | 1 => Ty.is (.agg #[.int .i64 r.a, .int .i64 r.i, .int .i64 r.n, .int .i64 r.kind, .string r.label, .slice r.hA r.hn r.hc, .slice r.wA r.wn r.wc, .slice r.kA r.kn r.kc]) | 2 => Ty.is (.int .i64 row) | 3 => Ty.is (.int .i64 col) | 4 => Ty.is (.slice lA l.length lc) | 5 => TRd (setF u row col l) | 6 => Ty.is (.bool true) | 7 => Ty.is (.bool true) | 8 => TGd (true = true) (Ty.is (.bool true)) | 9 => Ty.is (.bool true) | 10 => Ty.is (.bool true) | 11 => TGd (true = true) (Ty.is (.slice A9 l.length c9)) | 12 => TGd (true = true) (Ty.is (.slice lA l.length lc)) | 13 => TGd (true = true) (Ty.is (.bool true)) | 14 => Ty.is (.bool true) | 15 => Ty.is (.bool true) | 16 => TGd (true = true) (Ty.is (.bool TB)) | 17 => TGd (true = true) (Ty.is (.bool TB)) | 18 => TGd (true = true) (Ty.is (.bool true)) | 19 => Ty.is (.bool true) | 20 => Ty.is (.bool true) | 21 => TGd (true = true) (Ty.is (.int .i64 a)) | 22 => TGd (true = true) (Ty.is (.int .i64 row)) | 23 => TGd (true = true) (Ty.is (.bool (decide ((a : Int) = row)))) | 24 => TGd (true = true) (Ty.is (.bool (decide ((a : Int) = row)))) | 25 => TGd ((decide ((a : Int) = row)) = true) (Ty.is (.int .i64 b)) | 26 => TGd ((decide ((a : Int) = row)) = true) (Ty.is (.int .i64 col)) | 27 => TGd ((decide ((a : Int) = row)) = true) (Ty.is (.bool (decide ((b : Int) = col)))) | 28 => TGd (true = true) (Ty.is (.bool ((decide ((a : Int) = row)) && (decide ((b : Int) = col))))) | 29 => TGd (true = true) (Ty.is (.bool ((decide ((a : Int) = row)) && (decide ((b : Int) = col))))) | 30 => TGd (((decide ((a : Int) = row)) && (decide ((b : Int) = col))) = false) (Ty.is (.slice A10 G2.length c10)) | 31 => TGd (((decide ((a : Int) = row)) && (decide ((b : Int) = col))) = false) (Ty.is (.slice A3 G.length c3)) | 32 => TGd (((decide ((a : Int) = row)) && (decide ((b : Int) = col))) = false) (Ty.is (.bool true)) | 33 => TGd (true = true) (Ty.is (.bool true)) | 34 => Ty.is (.bool true) | 35 => Ty.is (.bool true) | _ => Ty.any) (by kernel_rfl) rfl ?_
      intro v
      refine ⟨?_, ?_, ?_, ?_, ?_, ?_, ?_, ?_, ?_, ?_, ?_, ?_, ?_, ?_, ?_, ?_, ?_, ?_, ?_, ?_, ?_, ?_, ?_, ?_, ?_, ?_, ?_, ?_, ?_, ?_, ?_, ?_, ?_, ?_, ?_, ?_, ?_⟩
      · intro wq hq hd
        refine ob_plain rfl ?_
        exact yld_loadAgg 27 (.tmp 15) rfl Try.isAgg27 8 Try.sizeOf27 [.int .i64 r'.a, .int .i64 r'.i, .int .i64 r'.n, .int .i64 r'.kind, .string r'.label, .slice r'.hA r'.hn r'.hc, .slice r'.wA r'.wn r'.wc, .slice r'.kA r'.kn r'.kc] rfl (Hbt'.out _ (hx5q.trans hq)) rfl
      · intro wq hq hd
        refine ob_plain rfl ?_
        exact yld_loadAgg 27 (.tmp 6) rfl Try.isAgg27 8 Try.sizeOf27 [.int .i64 r.a, .int .i64 r.i, .int .i64 r.n, .int .i64 r.kind, .string r.label, .slice r.hA r.hn r.hc, .slice r.wA r.wn r.wc, .slice r.kA r.kn r.kc] rfl (Hb.out _ (hx2q.trans hq)) rfl
      · intro wq hq hd
        refine ob_plain rfl ?_
        exact yld_move (.tmp 1) rfl rfl rfl
      · intro wq hq hd
        refine ob_plain rfl ?_
        exact yld_move (.tmp 2) rfl rfl rfl
      · intro wq hq hd
        refine ob_plain rfl ?_
        exact yld_move (.tmp 3) rfl rfl rfl
      · intro wq hq hd
        obtain ⟨h0, h1, h2, h3, -⟩ := hd
        change v 1 = _ at h0
        change v 2 = _ at h1
        change v 3 = _ at h2
        change v 4 = _ at h3
        refine ob_plain rfl ?_
        refine yld_call 28 Try.call28 _ _ rfl rfl [_, _, _, _] ⟨h0, h1, h2, h3, trivial⟩ ?_
        refine (Hrs.out _ (hx2q.trans hq)).mono ?_
        rintro e w' ⟨r2, rfl, hx', hr2⟩
        exact ⟨_, rfl, hx', r2, rfl, hr2⟩
      · intro wq hq hd
        obtain ⟨h0, h1, h2, -⟩ := hd
        change v 0 = _ at h0
        change (TRd (setF u row col l)).p (v 5) wq at h1
        refine ob_plain rfl ?_
        obtain ⟨r2, g2, hr2⟩ := h1
        refine yld_call 27 Try.call27 _ _ rfl rfl [_, _] ⟨h0, g2, trivial⟩ ?_
        refine (same9_eq _ (setF u row col l) r' r2 _ (Nat.le_refl _) (Hr'.out _ (hx4q.trans hq)) hr2 HAs.out).mono ?_
        rintro e w' ⟨rfl, hx'⟩
        exact ⟨_, rfl, hx', rfl⟩
      · intro wq hq hd
        obtain ⟨h0, h1, -⟩ := hd
        change v 6 = _ at h0
        refine ob_plain rfl ?_
        exact yld_move (.tmp 99) rfl h0 rfl
      · intro wq hq hd
        obtain ⟨h0, -⟩ := hd
        change v 7 = _ at h0
        refine ob_guard 7 true (true) rfl (yields_of rfl h0) (fun hg => ?_) (fun hg => ?_)
        · refine Yld.gd (p := true = true) (T := Ty.is (.bool true)) ?_
          exact yld_move (.tmp 20) rfl rfl rfl
        · intro hn; rw [hn] at hg; cases hg
      · intro wq hq hd
        obtain ⟨h0, h1, -⟩ := hd
        change v 7 = _ at h0
        change (true = true) → v 8 = _ at h1
        refine ob_plain rfl ?_
        exact yld_and (.tmp 100) (.tmp 101) rfl rfl _ _ h0 (fun hgd => h1 hgd) rfl
      · intro wq hq hd
        obtain ⟨h0, h1, -⟩ := hd
        change v 9 = _ at h0
        refine ob_plain rfl ?_
        exact yld_move (.tmp 102) rfl h0 rfl
      · intro wq hq hd
        obtain ⟨h0, -⟩ := hd
        change v 10 = _ at h0
        refine ob_guard 10 true (true) rfl (yields_of rfl h0) (fun hg => ?_) (fun hg => ?_)
        · refine Yld.gd (p := true = true) (T := Ty.is (.slice A9 l.length c9)) ?_
          exact yld_move (.tmp 19) rfl rfl rfl
        · intro hn; rw [hn] at hg; cases hg
      · intro wq hq hd
        obtain ⟨h0, -⟩ := hd
        change v 10 = _ at h0
        refine ob_guard 10 true (true) rfl (yields_of rfl h0) (fun hg => ?_) (fun hg => ?_)
        · refine Yld.gd (p := true = true) (T := Ty.is (.slice lA l.length lc)) ?_
          exact yld_move (.tmp 3) rfl rfl rfl
        · intro hn; rw [hn] at hg; cases hg
      · intro wq hq hd
        obtain ⟨h0, h1, h2, h3, -⟩ := hd
        change (true = true) → v 11 = _ at h0
        change (true = true) → v 12 = _ at h1
        change v 10 = _ at h2
        refine ob_guard 10 true (true) rfl (yields_of rfl h2) (fun hg => ?_) (fun hg => ?_)
        · refine Yld.gd (p := true = true) (T := Ty.is (.bool true)) ?_
          replace h0 := h0 hg
          replace h1 := h1 hg
          refine yld_call 25 Try.call25 _ _ rfl rfl [_, _] ⟨h0, h1, trivial⟩ ?_
          refine (words9_eq A9 lA c9 lc l _ (hs9.ext (hx10.trans hq)) (Hsl.out _ (hx2q.trans hq)) (by omega)).mono ?_
          rintro e w' ⟨rfl, hx'⟩
          exact ⟨_, rfl, hx', rfl⟩
        · intro hn; rw [hn] at hg; cases hg
      · intro wq hq hd
        obtain ⟨h0, h1, -⟩ := hd
        change v 10 = _ at h0
        change (true = true) → v 13 = _ at h1
        refine ob_plain rfl ?_
        exact yld_and (.tmp 103) (.tmp 106) rfl rfl _ _ h0 (fun hgd => h1 hgd) rfl
      · intro wq hq hd
        obtain ⟨h0, h1, -⟩ := hd
        change v 14 = _ at h0
        refine ob_plain rfl ?_
        exact yld_move (.tmp 107) rfl h0 rfl
      · intro wq hq hd
        obtain ⟨h0, -⟩ := hd
        change v 15 = _ at h0
        refine ob_guard 15 true (true) rfl (yields_of rfl h0) (fun hg => ?_) (fun hg => ?_)
        · refine Yld.gd (p := true = true) (T := Ty.is (.bool TB)) ?_
          exact yld_move (.tmp 22) rfl rfl rfl
        · intro hn; rw [hn] at hg; cases hg
      · intro wq hq hd
        obtain ⟨h0, -⟩ := hd
        change v 15 = _ at h0
        refine ob_guard 15 true (true) rfl (yields_of rfl h0) (fun hg => ?_) (fun hg => ?_)
        · refine Yld.gd (p := true = true) (T := Ty.is (.bool TB)) ?_
          exact yld_move (.tmp 14) rfl rfl rfl
        · intro hn; rw [hn] at hg; cases hg
      · intro wq hq hd
        obtain ⟨h0, h1, h2, -⟩ := hd
        change (true = true) → v 16 = _ at h0
        change (true = true) → v 17 = _ at h1
        change v 15 = _ at h2
        refine ob_guard 15 true (true) rfl (yields_of rfl h2) (fun hg => ?_) (fun hg => ?_)
        · refine Yld.gd (p := true = true) (T := Ty.is (.bool true)) ?_
          replace h0 := h0 hg
          replace h1 := h1 hg
          exact yld_binBool .eql 4 4 (.tmp 109) (.tmp 110) rfl _ _ h0 h1 (run_eql_bool _) rfl
        · intro hn; rw [hn] at hg; cases hg
      · intro wq hq hd
        obtain ⟨h0, h1, -⟩ := hd
        change v 15 = _ at h0
        change (true = true) → v 18 = _ at h1
        refine ob_plain rfl ?_
        exact yld_and (.tmp 108) (.tmp 111) rfl rfl _ _ h0 (fun hgd => h1 hgd) rfl
      · intro wq hq hd
        obtain ⟨h0, h1, -⟩ := hd
        change v 19 = _ at h0
        refine ob_plain rfl ?_
        exact yld_move (.tmp 112) rfl h0 rfl
      · intro wq hq hd
        obtain ⟨h0, -⟩ := hd
        change v 20 = _ at h0
        refine ob_guard 20 true (true) rfl (yields_of rfl h0) (fun hg => ?_) (fun hg => ?_)
        · refine Yld.gd (p := true = true) (T := Ty.is (.int .i64 a)) ?_
          exact yld_move (.tmp 4) rfl rfl rfl
        · intro hn; rw [hn] at hg; cases hg
      · intro wq hq hd
        obtain ⟨h0, -⟩ := hd
        change v 20 = _ at h0
        refine ob_guard 20 true (true) rfl (yields_of rfl h0) (fun hg => ?_) (fun hg => ?_)
        · refine Yld.gd (p := true = true) (T := Ty.is (.int .i64 row)) ?_
          exact yld_move (.tmp 1) rfl rfl rfl
        · intro hn; rw [hn] at hg; cases hg
      · intro wq hq hd
        obtain ⟨h0, h1, h2, -⟩ := hd
        change (true = true) → v 21 = _ at h0
        change (true = true) → v 22 = _ at h1
        change v 20 = _ at h2
        refine ob_guard 20 true (true) rfl (yields_of rfl h2) (fun hg => ?_) (fun hg => ?_)
        · refine Yld.gd (p := true = true) (T := Ty.is (.bool (decide ((a : Int) = row)))) ?_
          replace h0 := h0 hg
          replace h1 := h1 hg
          exact yld_binInt .eql 3 3 (.tmp 114) (.tmp 115) rfl _ _ h0 h1 (run_eql_i64 _ _ _) rfl
        · intro hn; rw [hn] at hg; cases hg
      · intro wq hq hd
        obtain ⟨h0, h1, h2, -⟩ := hd
        change (true = true) → v 23 = _ at h0
        change v 20 = _ at h1
        refine ob_guard 20 true (true) rfl (yields_of rfl h1) (fun hg => ?_) (fun hg => ?_)
        · refine Yld.gd (p := true = true) (T := Ty.is (.bool (decide ((a : Int) = row)))) ?_
          replace h0 := h0 hg
          exact yld_move (.tmp 116) rfl h0 rfl
        · intro hn; rw [hn] at hg; cases hg
      · intro wq hq hd
        obtain ⟨h0, -⟩ := hd
        change (true = true) → v 24 = _ at h0
        refine ob_guard 24 true ((decide ((a : Int) = row))) rfl (yields_of rfl (h0 rfl)) (fun hg => ?_) (fun hg => ?_)
        · refine Yld.gd (p := (decide ((a : Int) = row)) = true) (T := Ty.is (.int .i64 b)) ?_
          exact yld_move (.tmp 5) rfl rfl rfl
        · intro hn; rw [hn] at hg; cases hg
      · intro wq hq hd
        obtain ⟨h0, -⟩ := hd
        change (true = true) → v 24 = _ at h0
        refine ob_guard 24 true ((decide ((a : Int) = row))) rfl (yields_of rfl (h0 rfl)) (fun hg => ?_) (fun hg => ?_)
        · refine Yld.gd (p := (decide ((a : Int) = row)) = true) (T := Ty.is (.int .i64 col)) ?_
          exact yld_move (.tmp 2) rfl rfl rfl
        · intro hn; rw [hn] at hg; cases hg
      · intro wq hq hd
        obtain ⟨h0, h1, h2, -⟩ := hd
        change ((decide ((a : Int) = row)) = true) → v 25 = _ at h0
        change ((decide ((a : Int) = row)) = true) → v 26 = _ at h1
        change (true = true) → v 24 = _ at h2
        refine ob_guard 24 true ((decide ((a : Int) = row))) rfl (yields_of rfl (h2 rfl)) (fun hg => ?_) (fun hg => ?_)
        · refine Yld.gd (p := (decide ((a : Int) = row)) = true) (T := Ty.is (.bool (decide ((b : Int) = col)))) ?_
          replace h0 := h0 hg
          replace h1 := h1 hg
          exact yld_binInt .eql 3 3 (.tmp 118) (.tmp 119) rfl _ _ h0 h1 (run_eql_i64 _ _ _) rfl
        · intro hn; rw [hn] at hg; cases hg
      · intro wq hq hd
        obtain ⟨h0, h1, h2, -⟩ := hd
        change (true = true) → v 24 = _ at h0
        change ((decide ((a : Int) = row)) = true) → v 27 = _ at h1
        change v 20 = _ at h2
        refine ob_guard 20 true (true) rfl (yields_of rfl h2) (fun hg => ?_) (fun hg => ?_)
        · refine Yld.gd (p := true = true) (T := Ty.is (.bool ((decide ((a : Int) = row)) && (decide ((b : Int) = col))))) ?_
          replace h0 := h0 hg
          exact yld_and (.tmp 117) (.tmp 120) rfl rfl _ _ h0 (fun hgd => h1 hgd) rfl
        · intro hn; rw [hn] at hg; cases hg
      · intro wq hq hd
        obtain ⟨h0, h1, h2, -⟩ := hd
        change (true = true) → v 28 = _ at h0
        change v 20 = _ at h2
        refine ob_guard 20 true (true) rfl (yields_of rfl h2) (fun hg => ?_) (fun hg => ?_)
        · refine Yld.gd (p := true = true) (T := Ty.is (.bool ((decide ((a : Int) = row)) && (decide ((b : Int) = col))))) ?_
          replace h0 := h0 hg
          exact yld_move (.tmp 121) rfl h0 rfl
        · intro hn; rw [hn] at hg; cases hg
      · intro wq hq hd
        obtain ⟨h0, -⟩ := hd
        change (true = true) → v 29 = _ at h0
        refine ob_guard 29 false (((decide ((a : Int) = row)) && (decide ((b : Int) = col)))) rfl (yields_of rfl (h0 rfl)) (fun hg => ?_) (fun hg => ?_)
        · refine Yld.gd (p := ((decide ((a : Int) = row)) && (decide ((b : Int) = col))) = false) (T := Ty.is (.slice A10 G2.length c10)) ?_
          exact yld_move (.tmp 21) rfl rfl rfl
        · intro hn; rw [hn] at hg; cases hg
      · intro wq hq hd
        obtain ⟨h0, -⟩ := hd
        change (true = true) → v 29 = _ at h0
        refine ob_guard 29 false (((decide ((a : Int) = row)) && (decide ((b : Int) = col)))) rfl (yields_of rfl (h0 rfl)) (fun hg => ?_) (fun hg => ?_)
        · refine Yld.gd (p := ((decide ((a : Int) = row)) && (decide ((b : Int) = col))) = false) (T := Ty.is (.slice A3 G.length c3)) ?_
          exact yld_move (.tmp 13) rfl rfl rfl
        · intro hn; rw [hn] at hg; cases hg
      · intro wq hq hd
        obtain ⟨h0, h1, h2, h3, -⟩ := hd
        change (((decide ((a : Int) = row)) && (decide ((b : Int) = col))) = false) → v 30 = _ at h0
        change (((decide ((a : Int) = row)) && (decide ((b : Int) = col))) = false) → v 31 = _ at h1
        change (true = true) → v 29 = _ at h2
        refine ob_guard 29 false (((decide ((a : Int) = row)) && (decide ((b : Int) = col)))) rfl (yields_of rfl (h2 rfl)) (fun hg => ?_) (fun hg => ?_)
        · refine Yld.gd (p := ((decide ((a : Int) = row)) && (decide ((b : Int) = col))) = false) (T := Ty.is (.bool true)) ?_
          replace h0 := h0 hg
          replace h1 := h1 hg
          have hGG := Hgg.out hg
          subst hGG
          refine yld_call 25 Try.call25 _ _ rfl rfl [_, _] ⟨h0, h1, trivial⟩ ?_
          refine (words9_eq A10 A3 c10 c3 _ _ (hs10.ext hq) (hs3.ext (hx3q.trans hq)) (by have := Hglen.out; omega)).mono ?_
          rintro e w' ⟨rfl, hx'⟩
          exact ⟨_, rfl, hx', rfl⟩
        · intro hn; rw [hn] at hg; cases hg
      · intro wq hq hd
        obtain ⟨h0, h1, h2, -⟩ := hd
        change (true = true) → v 29 = _ at h0
        change (((decide ((a : Int) = row)) && (decide ((b : Int) = col))) = false) → v 32 = _ at h1
        change v 20 = _ at h2
        refine ob_guard 20 true (true) rfl (yields_of rfl h2) (fun hg => ?_) (fun hg => ?_)
        · refine Yld.gd (p := true = true) (T := Ty.is (.bool true)) ?_
          replace h0 := h0 hg
          exact yld_pick (.tmp 122) (.const (.bool true)) (.tmp 125) rfl (decide (a = row) && decide (b = col)) h0 (fun _ => rfl) (fun hgd => h1 hgd) rfl
        · intro hn; rw [hn] at hg; cases hg
      · intro wq hq hd
        obtain ⟨h0, h1, -⟩ := hd
        change v 20 = _ at h0
        change (true = true) → v 33 = _ at h1
        refine ob_plain rfl ?_
        exact yld_and (.tmp 113) (.tmp 126) rfl rfl _ _ h0 (fun hgd => h1 hgd) rfl
      · intro wq hq hd
        obtain ⟨h0, h1, h2, h3, h4, h5, h6, h7, h8, h9, h10, h11, h12, h13, h14, h15, h16, h17, h18, h19, h20, h21, h22, h23, h24, h25, h26, h27, h28, h29, h30, h31, h32, h33, h34, h35, h36, -⟩ := hd
        change v 34 = _ at h0
        refine ob_plain rfl ?_
        exact yld_assign (.tmp 127) rfl h0 rfl
      · intro wq hq hT
        have k35 := hT 35 (by decide)
        change v 35 = _ at k35
        clear hT
        simp only [List.drop_succ_cons, List.drop_zero, putE, setsE, List.set_cons_succ, List.set_cons_zero, Nat.reduceAdd]
        rw [k35]
        go_wp2
        go_ret
        exact ⟨rfl, hw0.trans (hx2q.trans hq)⟩

end Go.Proofs.Ythjlnpcanccmkaa
