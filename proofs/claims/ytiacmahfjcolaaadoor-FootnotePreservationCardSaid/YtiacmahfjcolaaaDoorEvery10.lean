/- every: the units of a tree in document order, each handed to a visitor. -/
import Derived.Test.YtiacmahfjcolaaaDoorOwn10
namespace Go.Proofs.YtiacmahfjcolaaaDoor
open Go.RowKit


def everyCheckAt (W0 : World) (fv : Value) (Inv : (Nat → Bool) → List GUnit → World → Prop) (P : GUnit → Prop) (all : List GUnit) (N : Nat) : Prop := ∀ (u : GUnit) (r : RUnit) (p : Nat → Bool) (acc : List GUnit) (w : World), SizeOf.sizeOf u ≤ N → Reads W0 u r → AllU P u → AllU (lensLe 9223372036854775807 9223372036854775807) u → (∃ rest, all = acc ++ preF u ++ rest) → Inv p acc w →
    Calls Tryd.prog 40 #[.agg r.cells.toArray, .func (.func 41) #[] #[fv]] w fun e w' => e = .returned (.tuple #[]) ∧ ∃ p', Inv p' (acc ++ preF u) w' ∧ CIn (mask p w) (mask p' w')
set_option maxRecDepth 100000 in
set_option maxHeartbeats 1600000 in
theorem everyCheck_step {W0 : World} {fv : Value} {Inv : (Nat → Bool) → List GUnit → World → Prop} {P : GUnit → Prop} {all : List GUnit} (hext : ∀ p acc w, Inv p acc w → Ext W0 w) (hmono : ∀ p acc w w', Inv p acc w → Ext w w' → Inv p acc w') (hdark : ∀ p acc w, Inv p acc w → ∀ j, p j = true → j < w.heap.size)
    (hstep : ∀ p acc x (rx : RUnit) w, P x → AllU (lensLe 9223372036854775807 9223372036854775807) x → (∃ rest, all = acc ++ x :: rest) → Reads W0 x rx → Inv p acc w → Calls Tryd.prog 41 #[.agg rx.cells.toArray, fv] w fun e w' => e = .returned (.tuple #[]) ∧ ∃ p', Inv p' (acc ++ [x]) w' ∧ CIn (mask p w) (mask p' w'))
    (N : Nat) (ih : everyCheckAt W0 fv Inv P all N) : everyCheckAt W0 fv Inv P all (N + 1) := by
  rintro u r p acc w hN hr hP hA ⟨rest, hal⟩ hI
  have hru := hr
  have hAu := hA
  obtain ⟨a, i, n, kd, lb, hd, wd, kids⟩ := u
  rw [Reads] at hr
  obtain ⟨-, -, -, hkn, hkc, rs, hrs, hall⟩ := hr
  rw [AllU] at hP hA
  obtain ⟨hPu, hPk⟩ := hP
  obtain ⟨⟨-, -, hl3⟩, hAk⟩ := hA
  have hrl := ReadsAll.length hall
  rw [← hrl] at hkn hl3
  have hx0 : Ext w (w.alloc (.cells r.cells.toArray 27)) := (Ext.refl w).alloc _
  have hI0 := hmono _ _ _ _ hI hx0
  have hst := hstep p acc _ r _ hPu hAu ⟨preL kids ++ rest, by rw [hal, preF]; simp⟩ hru hI0
  have hb7 := (boxUnit r (w := w) (Ext.refl _)).2.2.2.2.2.2.2.2
  have hp0 : p w.heap.size = false := by
    cases h : p w.heap.size with
    | false => rfl
    | true => have := hdark _ _ _ hI _ h; omega
  obtain ⟨ra, ri, rn, rk, rl, hdA, hn, hc, wA, wn, wc, kA, kn, kc⟩ := r
  dsimp only at hkn hkc hrs hall
  subst hkn
  simp only [RUnit.cells] at hx0 hI0 hst hb7 ⊢
  have Hsub := Lib.hid (show ∀ k, ∀ h : k < kids.length, SizeOf.sizeOf kids[k] ≤ N from fun k h => by
    have a1 := List.sizeOf_lt_of_mem (List.getElem_mem h)
    simp at hN
    omega)
  have Hih := Lib.hid (show everyCheckAt W0 fv Inv P all N from ih)
  obtain ⟨R, hR⟩ : ∃ R, acc ++ preF (.mk a i n kd lb hd wd kids) = R := ⟨_, rfl⟩
  have HR := Lib.hid (show R = (acc ++ [.mk a i n kd lb hd wd kids]) ++ preL (kids.drop 0) by rw [← hR, preF]; simp)
  have Hal := Lib.hid (show all = R ++ rest by rw [← hR]; exact hal)
  rw [hR]
  obtain ⟨wb, hwb⟩ : ∃ wb, w.alloc (.cells #[.int .i64 ra, .int .i64 ri, .int .i64 rn, .int .i64 rk, .string rl, .slice hdA hn hc, .slice wA wn wc, .slice kA rs.length kc] 27) = wb := ⟨_, rfl⟩
  rw [hwb] at hx0 hI0 hst hb7
  have Hwb := Lib.hid hwb
  have Hst := Lib.hid hst
  have Hb7 := Lib.hid (mask_cell_of (p := p) hp0 hb7)
  have Hall := Lib.hid hall
  have Hrl := Lib.hid hrl
  have HPk := Lib.hid hPk
  have HAk := Lib.hid hAk
  have Hm := Lib.hid hmono
  have He := Lib.hid hext
  have Hx0 := Lib.hid (show CIn (mask p w) (mask p wb) from CIn.ext hx0)
  clear hal hstep hdark ih hru hAu hPu hall hrl hPk hAk hR hwb hst hb7 hp0 hN hI hI0 hmono hext hx0
  go_enter Tryd.func40, Tryd.ntmps40
  go_wp2_with fail
  rw [Hwb.out]
  refine (Hst.out).mono ?_
  rintro e w1 ⟨rfl, p1, hI1, hc1⟩
  have h7 := ((CIn.unmask p1 w1).cell _ _ (hc1.cell _ _ Hb7.out))
  have HI1 := Lib.hid hI1
  have Hc1 := Lib.hid hc1
  clear hI1 hc1
  go_wp2
  go_loopw [12] (fun vk wr => ∃ (k : Nat) (p2 : Nat → Bool) (acc2 : List GUnit), k ≤ rs.length ∧ vk = .int .i64 (k : Nat) ∧ Hid (R = acc2 ++ preL (kids.drop k)) ∧ Hid (Inv p2 acc2 wr) ∧ Hid (CIn (mask p wb) (mask p2 wr))) (fun vk _ => rs.length - (intOf vk).toNat)
  case atStart => exact ⟨0, p1, _, Nat.zero_le _, rfl, HR, HI1, Hc1⟩
  case round =>
    clear h7
    obtain ⟨k, p2, acc2, hk, rfl, Hk, HI, HC⟩ := hrel
    by_cases hlt : k < rs.length
    · have hltk : k < kids.length := by rw [← Hrl.out]; exact hlt
      have hk2 := Hk.out
      rw [List.drop_eq_getElem_cons hltk, preL] at hk2
      have hW := He.out _ _ _ HI.out
      obtain ⟨b, off, rfl, hb, u0, u1, u2, u3, u4, u5, u6, u7⟩ := unitAt (hrs.ext hW) hlt
      have hrec := fun (wq : World) (hq : Ext wr wq) => Hih.out kids[k] rs[k] p2 acc2 wq (Hsub.out k hltk) (ReadsAll.get Hall.out k hltk hlt) (HPk.out.get k hltk) (HAk.out.get k hltk) ⟨preL (kids.drop (k + 1)) ++ rest, by rw [Hal.out, hk2]; simp⟩ (Hm.out _ _ _ _ HI.out hq)
      obtain ⟨q, hq⟩ : ∃ q, rs[k] = q := ⟨_, rfl⟩
      rw [hq] at u0 u1 u2 u3 u4 u5 u6 u7 hrec
      simp only [RUnit.cells] at hrec
      have Hrec := Lib.hid hrec
      have HK2 := Lib.hid hk2
      have d1 : decide ((k : Int) < (rs.length : Int)) = true := decide_eq_true (by omega)
      have hxa : Ext wr (wr.alloc (.cells #[.int .i64 q.a, .int .i64 q.i, .int .i64 q.n, .int .i64 q.kind, .string q.label, .slice q.hA q.hn q.hc, .slice q.wA q.wn q.wc, .slice q.kA q.kn q.kc] 27)) := (Ext.refl _).alloc _
      have HCa := Lib.hid (HC.out.trans (CIn.ext hxa))
      have Hxa := Lib.hid hxa
      clear hrec hk2 hq hW hxa
      go_wp2_with fail
      refine (Hrec.out _ Hxa.out).mono ?_
      rintro e w2 ⟨rfl, p3, hI3, hc3⟩
      have HI3 := Lib.hid hI3
      have Hc3 := Lib.hid (HCa.out.trans hc3)
      clear hI3 hc3
      go_wp2
      go_roundw
      case rel => exact ⟨k + 1, p3, _, by omega, by go_num, Lib.hid (by rw [HK2.out, List.append_assoc]), HI3, Hc3⟩
      case measure => simp [intOf]; omega
    · have hkr : k = rs.length := by omega
      have hk2 := Hk.out
      rw [List.drop_of_length_le (by rw [← Hrl.out]; omega), preL, List.append_nil] at hk2
      have HK2 := Lib.hid hk2
      have d1 : decide ((k : Int) < (rs.length : Int)) = false := decide_eq_false (by omega)
      clear hk2 hkr
      go_wp2
      (try simp only [Exit.inBlock, Exit.then])
      refine bodyPost_end (results_none rfl _ _ _) rfl ?_
      exact ⟨rfl, p2, by rw [HK2.out]; exact HI.out, Hx0.out.trans HC.out⟩
theorem everyCheck {W0 : World} {fv : Value} {Inv : (Nat → Bool) → List GUnit → World → Prop} {P : GUnit → Prop} {all : List GUnit} (hext : ∀ p acc w, Inv p acc w → Ext W0 w) (hmono : ∀ p acc w w', Inv p acc w → Ext w w' → Inv p acc w') (hdark : ∀ p acc w, Inv p acc w → ∀ j, p j = true → j < w.heap.size)
    (hstep : ∀ p acc x (rx : RUnit) w, P x → AllU (lensLe 9223372036854775807 9223372036854775807) x → (∃ rest, all = acc ++ x :: rest) → Reads W0 x rx → Inv p acc w → Calls Tryd.prog 41 #[.agg rx.cells.toArray, fv] w fun e w' => e = .returned (.tuple #[]) ∧ ∃ p', Inv p' (acc ++ [x]) w' ∧ CIn (mask p w) (mask p' w')) :
    ∀ N, everyCheckAt W0 fv Inv P all N
  | 0 => fun u _ _ _ _ h => by cases u; simp at h
  | N + 1 => everyCheck_step hext hmono hdark hstep N (everyCheck hext hmono hdark hstep N)

def everyNotesAt (W0 : World) (fv : Value) (Inv : (Nat → Bool) → List GUnit → World → Prop) (P : GUnit → Prop) (all : List GUnit) (N : Nat) : Prop := ∀ (u : GUnit) (r : RUnit) (p : Nat → Bool) (acc : List GUnit) (w : World), SizeOf.sizeOf u ≤ N → Reads W0 u r → AllU P u → AllU (lensLe 9223372036854775807 9223372036854775807) u → (∃ rest, all = acc ++ preF u ++ rest) → Inv p acc w →
    Calls Tryd.prog 40 #[.agg r.cells.toArray, .func (.func 43) #[] #[fv]] w fun e w' => e = .returned (.tuple #[]) ∧ ∃ p', Inv p' (acc ++ preF u) w' ∧ CIn (mask p w) (mask p' w')
set_option maxRecDepth 100000 in
set_option maxHeartbeats 1600000 in
theorem everyNotes_step {W0 : World} {fv : Value} {Inv : (Nat → Bool) → List GUnit → World → Prop} {P : GUnit → Prop} {all : List GUnit} (hext : ∀ p acc w, Inv p acc w → Ext W0 w) (hmono : ∀ p acc w w', Inv p acc w → Ext w w' → Inv p acc w') (hdark : ∀ p acc w, Inv p acc w → ∀ j, p j = true → j < w.heap.size)
    (hstep : ∀ p acc x (rx : RUnit) w, P x → AllU (lensLe 9223372036854775807 9223372036854775807) x → (∃ rest, all = acc ++ x :: rest) → Reads W0 x rx → Inv p acc w → Calls Tryd.prog 43 #[.agg rx.cells.toArray, fv] w fun e w' => e = .returned (.tuple #[]) ∧ ∃ p', Inv p' (acc ++ [x]) w' ∧ CIn (mask p w) (mask p' w'))
    (N : Nat) (ih : everyNotesAt W0 fv Inv P all N) : everyNotesAt W0 fv Inv P all (N + 1) := by
  rintro u r p acc w hN hr hP hA ⟨rest, hal⟩ hI
  have hru := hr
  have hAu := hA
  obtain ⟨a, i, n, kd, lb, hd, wd, kids⟩ := u
  rw [Reads] at hr
  obtain ⟨-, -, -, hkn, hkc, rs, hrs, hall⟩ := hr
  rw [AllU] at hP hA
  obtain ⟨hPu, hPk⟩ := hP
  obtain ⟨⟨-, -, hl3⟩, hAk⟩ := hA
  have hrl := ReadsAll.length hall
  rw [← hrl] at hkn hl3
  have hx0 : Ext w (w.alloc (.cells r.cells.toArray 27)) := (Ext.refl w).alloc _
  have hI0 := hmono _ _ _ _ hI hx0
  have hst := hstep p acc _ r _ hPu hAu ⟨preL kids ++ rest, by rw [hal, preF]; simp⟩ hru hI0
  have hb7 := (boxUnit r (w := w) (Ext.refl _)).2.2.2.2.2.2.2.2
  have hp0 : p w.heap.size = false := by
    cases h : p w.heap.size with
    | false => rfl
    | true => have := hdark _ _ _ hI _ h; omega
  obtain ⟨ra, ri, rn, rk, rl, hdA, hn, hc, wA, wn, wc, kA, kn, kc⟩ := r
  dsimp only at hkn hkc hrs hall
  subst hkn
  simp only [RUnit.cells] at hx0 hI0 hst hb7 ⊢
  have Hsub := Lib.hid (show ∀ k, ∀ h : k < kids.length, SizeOf.sizeOf kids[k] ≤ N from fun k h => by
    have a1 := List.sizeOf_lt_of_mem (List.getElem_mem h)
    simp at hN
    omega)
  have Hih := Lib.hid (show everyNotesAt W0 fv Inv P all N from ih)
  obtain ⟨R, hR⟩ : ∃ R, acc ++ preF (.mk a i n kd lb hd wd kids) = R := ⟨_, rfl⟩
  have HR := Lib.hid (show R = (acc ++ [.mk a i n kd lb hd wd kids]) ++ preL (kids.drop 0) by rw [← hR, preF]; simp)
  have Hal := Lib.hid (show all = R ++ rest by rw [← hR]; exact hal)
  rw [hR]
  obtain ⟨wb, hwb⟩ : ∃ wb, w.alloc (.cells #[.int .i64 ra, .int .i64 ri, .int .i64 rn, .int .i64 rk, .string rl, .slice hdA hn hc, .slice wA wn wc, .slice kA rs.length kc] 27) = wb := ⟨_, rfl⟩
  rw [hwb] at hx0 hI0 hst hb7
  have Hwb := Lib.hid hwb
  have Hst := Lib.hid hst
  have Hb7 := Lib.hid (mask_cell_of (p := p) hp0 hb7)
  have Hall := Lib.hid hall
  have Hrl := Lib.hid hrl
  have HPk := Lib.hid hPk
  have HAk := Lib.hid hAk
  have Hm := Lib.hid hmono
  have He := Lib.hid hext
  have Hx0 := Lib.hid (show CIn (mask p w) (mask p wb) from CIn.ext hx0)
  clear hal hstep hdark ih hru hAu hPu hall hrl hPk hAk hR hwb hst hb7 hp0 hN hI hI0 hmono hext hx0
  go_enter Tryd.func40, Tryd.ntmps40
  go_wp2_with fail
  rw [Hwb.out]
  refine (Hst.out).mono ?_
  rintro e w1 ⟨rfl, p1, hI1, hc1⟩
  have h7 := ((CIn.unmask p1 w1).cell _ _ (hc1.cell _ _ Hb7.out))
  have HI1 := Lib.hid hI1
  have Hc1 := Lib.hid hc1
  clear hI1 hc1
  go_wp2
  go_loopw [12] (fun vk wr => ∃ (k : Nat) (p2 : Nat → Bool) (acc2 : List GUnit), k ≤ rs.length ∧ vk = .int .i64 (k : Nat) ∧ Hid (R = acc2 ++ preL (kids.drop k)) ∧ Hid (Inv p2 acc2 wr) ∧ Hid (CIn (mask p wb) (mask p2 wr))) (fun vk _ => rs.length - (intOf vk).toNat)
  case atStart => exact ⟨0, p1, _, Nat.zero_le _, rfl, HR, HI1, Hc1⟩
  case round =>
    clear h7
    obtain ⟨k, p2, acc2, hk, rfl, Hk, HI, HC⟩ := hrel
    by_cases hlt : k < rs.length
    · have hltk : k < kids.length := by rw [← Hrl.out]; exact hlt
      have hk2 := Hk.out
      rw [List.drop_eq_getElem_cons hltk, preL] at hk2
      have hW := He.out _ _ _ HI.out
      obtain ⟨b, off, rfl, hb, u0, u1, u2, u3, u4, u5, u6, u7⟩ := unitAt (hrs.ext hW) hlt
      have hrec := fun (wq : World) (hq : Ext wr wq) => Hih.out kids[k] rs[k] p2 acc2 wq (Hsub.out k hltk) (ReadsAll.get Hall.out k hltk hlt) (HPk.out.get k hltk) (HAk.out.get k hltk) ⟨preL (kids.drop (k + 1)) ++ rest, by rw [Hal.out, hk2]; simp⟩ (Hm.out _ _ _ _ HI.out hq)
      obtain ⟨q, hq⟩ : ∃ q, rs[k] = q := ⟨_, rfl⟩
      rw [hq] at u0 u1 u2 u3 u4 u5 u6 u7 hrec
      simp only [RUnit.cells] at hrec
      have Hrec := Lib.hid hrec
      have HK2 := Lib.hid hk2
      have d1 : decide ((k : Int) < (rs.length : Int)) = true := decide_eq_true (by omega)
      have hxa : Ext wr (wr.alloc (.cells #[.int .i64 q.a, .int .i64 q.i, .int .i64 q.n, .int .i64 q.kind, .string q.label, .slice q.hA q.hn q.hc, .slice q.wA q.wn q.wc, .slice q.kA q.kn q.kc] 27)) := (Ext.refl _).alloc _
      have HCa := Lib.hid (HC.out.trans (CIn.ext hxa))
      have Hxa := Lib.hid hxa
      clear hrec hk2 hq hW hxa
      go_wp2_with fail
      refine (Hrec.out _ Hxa.out).mono ?_
      rintro e w2 ⟨rfl, p3, hI3, hc3⟩
      have HI3 := Lib.hid hI3
      have Hc3 := Lib.hid (HCa.out.trans hc3)
      clear hI3 hc3
      go_wp2
      go_roundw
      case rel => exact ⟨k + 1, p3, _, by omega, by go_num, Lib.hid (by rw [HK2.out, List.append_assoc]), HI3, Hc3⟩
      case measure => simp [intOf]; omega
    · have hkr : k = rs.length := by omega
      have hk2 := Hk.out
      rw [List.drop_of_length_le (by rw [← Hrl.out]; omega), preL, List.append_nil] at hk2
      have HK2 := Lib.hid hk2
      have d1 : decide ((k : Int) < (rs.length : Int)) = false := decide_eq_false (by omega)
      clear hk2 hkr
      go_wp2
      (try simp only [Exit.inBlock, Exit.then])
      refine bodyPost_end (results_none rfl _ _ _) rfl ?_
      exact ⟨rfl, p2, by rw [HK2.out]; exact HI.out, Hx0.out.trans HC.out⟩
theorem everyNotes {W0 : World} {fv : Value} {Inv : (Nat → Bool) → List GUnit → World → Prop} {P : GUnit → Prop} {all : List GUnit} (hext : ∀ p acc w, Inv p acc w → Ext W0 w) (hmono : ∀ p acc w w', Inv p acc w → Ext w w' → Inv p acc w') (hdark : ∀ p acc w, Inv p acc w → ∀ j, p j = true → j < w.heap.size)
    (hstep : ∀ p acc x (rx : RUnit) w, P x → AllU (lensLe 9223372036854775807 9223372036854775807) x → (∃ rest, all = acc ++ x :: rest) → Reads W0 x rx → Inv p acc w → Calls Tryd.prog 43 #[.agg rx.cells.toArray, fv] w fun e w' => e = .returned (.tuple #[]) ∧ ∃ p', Inv p' (acc ++ [x]) w' ∧ CIn (mask p w) (mask p' w')) :
    ∀ N, everyNotesAt W0 fv Inv P all N
  | 0 => fun u _ _ _ _ h => by cases u; simp at h
  | N + 1 => everyNotes_step hext hmono hdark hstep N (everyNotes hext hmono hdark hstep N)

end Go.Proofs.YtiacmahfjcolaaaDoor
