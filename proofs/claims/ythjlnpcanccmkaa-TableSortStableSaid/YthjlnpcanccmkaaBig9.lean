/- count, wordy, Big: what a tree that is not big has. -/
import Derived.Test.YthjlnpcanccmkaaCmp9
import Derived.Test.YthjlnpcanccmkaaTreeLaws
namespace Go.Proofs.Ythjlnpcanccmkaa
open Go.RowKit

def CountAt (N : Nat) : Prop := ∀ (u : GUnit) (r : RUnit) (most deep : Int) (w : World), SizeOf.sizeOf u ≤ N → Reads w u r → -1 ≤ deep → deep ≤ 12 → 0 ≤ most → most ≤ 1000 →
    Calls Try.prog 32 #[.agg r.cells.toArray, .int .i64 most, .int .i64 deep] w fun e w' => ∃ z : Int, e = .returned (.int .i64 z) ∧ 1 ≤ z ∧ z ≤ most + 1 ∧ (z ≤ most → z = cntF u) ∧ Ext w w'

set_option maxRecDepth 100000 in
set_option maxHeartbeats 1600000 in
theorem count_step (N : Nat) (ih : CountAt N) : CountAt (N + 1) := by
    intro u0 r most deep w hN hr hd0 hd1 hm0 hm1
    obtain ⟨a, i, n, kd, lb, hl, wl, kids⟩ := u0
    rw [Reads] at hr
    obtain ⟨-, -, -, hkn, hkc, rs, hrs, hall⟩ := hr
    have hbx := fun w' he => boxUnit (w' := w') r (w := w) he
    obtain ⟨ra, ri, rn, rk, rl, hA, hn, hc, wA, wn, wc, kA, kn, kc⟩ := r
    dsimp only at hkn hkc hrs hall
    simp only [RUnit.cells] at hbx ⊢
    subst hkn
    have hlen := ReadsAll.length hall
    have Hall := Lib.hid hall
    have HN := Lib.hid hN
    clear hall hN
    by_cases hdp : deep < 0
    · have e2 : decide (deep < 0) = true := decide_eq_true hdp
      clear hbx
      go_enter Try.func32, Try.ntmps32
      go_wp2
      go_ret
      exact ⟨most + 1, rfl, by omega, by omega, fun h => by omega, (Ext.refl _).alloc _⟩
    · have e2 : decide (deep < 0) = false := decide_eq_false hdp
      have Hbx := Lib.hid hbx
      clear hbx
      go_enter Try.func32, Try.ntmps32
      go_wp2
      have he1 : Ext w (w.alloc (.cells #[.int .i64 ra, .int .i64 ri, .int .i64 rn, .int .i64 rk, .string rl, .slice hA hn hc, .slice wA wn wc, .slice kA kids.length kc] 27)) := (Ext.refl w).alloc _
      obtain ⟨wb, hwb⟩ : ∃ wb, w.alloc (.cells #[.int .i64 ra, .int .i64 ri, .int .i64 rn, .int .i64 rk, .string rl, .slice hA hn hc, .slice wA wn wc, .slice kA kids.length kc] 27) = wb := ⟨_, rfl⟩
      rw [hwb] at Hbx he1 ⊢
      clear hwb
      go_loopw [7, 8] (fun z i wr => ∃ (k : Nat) (n : Int), k ≤ kids.length ∧ i = .int .i64 k ∧ z = .int .i64 n ∧ (k : Int) + 1 ≤ n ∧ n ≤ most + 1 ∧ Hid (n ≤ most → n = 1 + cntL (kids.take k)) ∧ Ext wb wr) (fun _ i _ => kids.length - (intOf i).toNat)
      case atStart => exact ⟨0, 1, Nat.zero_le _, rfl, rfl, by omega, by omega, Lib.hid (fun _ => by simp [cntL]), Ext.refl _⟩
      case round =>
        obtain ⟨k, n, hk, rfl, rfl, hn1, hn2, Hn, hext⟩ := hrel
        have hcell := (Hbx.out _ hext).2.2.2.2.2.2.2.2
        try dsimp only at hcell
        by_cases hlt : k < kids.length
        · have c1 : decide ((k : Int) < (kids.length : Int)) = true := decide_eq_true (by omega)
          by_cases hle : n ≤ most
          · have c2 : decide (n ≤ most) = true := decide_eq_true hle
            have hltr : k < rs.length := by omega
            obtain ⟨b, off, rfl, hb, u0, u1, u2, u3, u4, u5, u6, u7⟩ := unitAt ((hrs.ext he1).ext hext) hltr
            have hsub : SizeOf.sizeOf kids[k] ≤ N := by
              have a1 := List.sizeOf_lt_of_mem (List.getElem_mem hlt)
              have a2 := HN.out
              simp at a2
              omega
            have hrd := Reads.ext (he1.trans hext) _ _ (ReadsAll.get Hall.out k hlt hltr)
            have hrec := ih kids[k] rs[k] (most - n) (deep - 1) wr hsub hrd (by omega) (by omega) (by omega) (by omega)
            have Hct := Lib.hid (cntL_take hlt)
            obtain ⟨q, hq⟩ : ∃ q, rs[k] = q := ⟨_, rfl⟩
            rw [hq] at u0 u1 u2 u3 u4 u5 u6 u7 hrec
            have Hrec := Lib.hid hrec
            clear hle hsub hrd hrec hq
            go_wp2_with fail
            refine (Hrec.out).mono ?_
            rintro e w2 ⟨z, rfl, hz1, hz2, hz3, hext2⟩
            have Hz := Lib.hid (show n + z ≤ most → n + z = 1 + cntL (kids.take (k + 1)) from fun h => by rw [Hct.out, hz3 (by omega)]; have := Hn.out (by omega); omega)
            clear hz3
            go_wp2
            go_roundw
            case rel => exact ⟨k + 1, n + z, by omega, by go_num, by go_num, by omega, by omega, Hz, hext.trans hext2⟩
            case measure => simp [intOf]; omega
          · have c2 : decide (n ≤ most) = false := decide_eq_false hle
            clear hle
            go_wp2
            go_ret
            exact ⟨n, rfl, by omega, by omega, fun h => by simp at c2; omega, he1.trans hext⟩
        · have hkl : k = kids.length := by omega
          have h3 := Hn.out
          rw [hkl, List.take_length] at h3
          have H3 := Lib.hid h3
          have c1 : decide ((k : Int) < (kids.length : Int)) = false := decide_eq_false (by omega)
          clear h3 hkl Hn
          go_wp2
          go_ret
          exact ⟨n, rfl, by omega, by omega, fun h => by rw [cntF]; have := H3.out h; omega, he1.trans hext⟩
theorem count_any : ∀ N, CountAt N
  | 0 => fun u _ _ _ _ h => by obtain ⟨a, i, n, kd, lb, hl, wl, kids⟩ := u; simp at h
  | N + 1 => count_step N (count_any N)

/-- a unit whose rows and words are short -/
def nodeOk : GUnit → Prop
  | .mk _ _ _ _ lb hl wl _ => hl.length ≤ 300 ∧ wl.length ≤ 300 ∧ lb.size ≤ 100 ∧ (∀ x ∈ hl, x.t.size ≤ 100) ∧ (∀ x ∈ wl, x.t.size ≤ 100)
theorem take_all_succ {p : GWord → Prop} {l : List GWord} {k : Nat} (hk : k < l.length) (h : ∀ x ∈ l.take k, p x) (h2 : p l[k]) : ∀ x ∈ l.take (k + 1), p x := by
  rw [List.take_succ_eq_append_getElem hk]
  intro x hx
  rcases List.mem_append.1 hx with h3 | h3
  · exact h x h3
  · simp at h3; rw [h3]; exact h2
theorem AllUs_snoc {p : GUnit → Prop} : ∀ (us : List GUnit) (k : Nat) (hk : k < us.length), AllUs p (us.take k) → AllU p us[k] → AllUs p (us.take (k + 1))
  | [], k, hk, _, _ => by simp at hk
  | u :: us, 0, hk, _, h2 => by
    rw [List.take_succ_cons, List.take_zero, AllUs]
    exact ⟨h2, by rw [AllUs]; trivial⟩
  | u :: us, k + 1, hk, h1, h2 => by
    rw [List.take_succ_cons, AllUs] at h1 ⊢
    exact ⟨h1.1, AllUs_snoc us k (by simpa using hk) h1.2 h2⟩

/-- a bool; false only where p holds -/
def RetB (w : World) (p : Prop) (e : Ending) (w' : World) : Prop := ∃ b : Bool, e = .returned (.bool b) ∧ (b = false → p) ∧ Ext w w'
def WordyAt (N : Nat) : Prop := ∀ (u : GUnit) (r : RUnit) (w : World), SizeOf.sizeOf u ≤ N → Reads w u r → AllU (lensLe 9223372036854775807 9223372036854775807) u →
    Calls Try.prog 33 #[.agg r.cells.toArray] w (RetB w (AllU nodeOk u))

set_option maxRecDepth 100000 in
set_option maxHeartbeats 3200000 in
theorem wordy_step (N : Nat) (ih : WordyAt N) : WordyAt (N + 1) := by
    intro u0 r w hN hr hA
    obtain ⟨a, i, n, kd, lb, hl, wl, kids⟩ := u0
    rw [Reads] at hr
    rw [AllU] at hA
    obtain ⟨⟨hl1, hl2, hl3⟩, hA⟩ := hA
    obtain ⟨⟨-, -, -, -, hlb⟩, ⟨hhn, hhc, hhs⟩, ⟨hwn, hwc, hws⟩, hkn, hkc, rs, hrs, hall⟩ := hr
    have hbx := fun w' he => boxUnit (w' := w') r (w := w) he
    obtain ⟨ra, ri, rn, rk, rl, hdA, hn, hc, wA, wn, wc, kA, kn, kc⟩ := r
    dsimp only at hkn hkc hrs hall hhn hhc hhs hwn hwc hws hlb
    simp only [RUnit.cells] at hbx ⊢
    subst hkn hhn hwn hlb
    have hlen := ReadsAll.length hall
    have Hall := Lib.hid hall
    have HN := Lib.hid hN
    have HA := Lib.hid hA
    have Hbx := Lib.hid hbx
    clear hall hN hbx hA
    have he1 : Ext w (w.alloc (.cells #[.int .i64 ra, .int .i64 ri, .int .i64 rn, .int .i64 rk, .string rl, .slice hdA hl.length hc, .slice wA wl.length wc, .slice kA kids.length kc] 27)) := (Ext.refl w).alloc _
    by_cases b1 : 300 < hl.length
    · have e1 : decide ((hl.length : Int) > 300) = true := decide_eq_true (by omega)
      clear b1
      go_enter Try.func33, Try.ntmps33
      go_wp2
      go_ret
      exact ⟨true, rfl, (fun h => by cases h), he1⟩
    have e1 : decide ((hl.length : Int) > 300) = false := decide_eq_false (by omega)
    by_cases b2 : 300 < wl.length
    · have e2 : decide ((wl.length : Int) > 300) = true := decide_eq_true (by omega)
      clear b1 b2
      go_enter Try.func33, Try.ntmps33
      go_wp2
      go_ret
      exact ⟨true, rfl, (fun h => by cases h), he1⟩
    have e2 : decide ((wl.length : Int) > 300) = false := decide_eq_false (by omega)
    by_cases b3 : 100 < rl.size
    · have e3 : decide ((rl.size : Int) > 100) = true := decide_eq_true (by omega)
      clear b1 b2 b3
      go_enter Try.func33, Try.ntmps33
      go_wp2
      go_ret
      exact ⟨true, rfl, (fun h => by cases h), he1⟩
    have e3 : decide ((rl.size : Int) > 100) = false := decide_eq_false (by omega)
    have Hb1 := Lib.hid b1
    have Hb2 := Lib.hid b2
    have Hb3 := Lib.hid b3
    clear b1 b2 b3
    go_enter Try.func33, Try.ntmps33
    go_wp2
    obtain ⟨wb, hwb⟩ : ∃ wb, w.alloc (.cells #[.int .i64 ra, .int .i64 ri, .int .i64 rn, .int .i64 rk, .string rl, .slice hdA hl.length hc, .slice wA wl.length wc, .slice kA kids.length kc] 27) = wb := ⟨_, rfl⟩
    rw [hwb] at Hbx he1 ⊢
    clear hwb e1 e2 e3
    have f5 := (Hbx.out _ (Ext.refl _)).2.2.2.2.2.2.1
    have f6 := (Hbx.out _ (Ext.refl _)).2.2.2.2.2.2.2.1
    have f7 := (Hbx.out _ (Ext.refl _)).2.2.2.2.2.2.2.2
    try dsimp only at f5 f6 f7
    have hhsb := hhs.ext he1
    have hwsb := hws.ext he1
    go_loop [3] (fun i => ∃ k : Nat, k ≤ hl.length ∧ i = .int .i64 k ∧ Hid (∀ x ∈ hl.take k, x.t.size ≤ 100)) (fun i => hl.length - (intOf i).toNat)
    case atStart => exact ⟨0, Nat.zero_le _, rfl, Lib.hid (by simp)⟩
    case round =>
      obtain ⟨k, hk, rfl, Hh⟩ := hrel
      by_cases hlt : k < hl.length
      · obtain ⟨b, off, rfl, hb, hc0, _, _, _⟩ := wordAt hhsb hlt
        obtain ⟨s, hsk⟩ : ∃ s, hl[k].t = s := ⟨_, rfl⟩
        rw [hsk] at hc0
        have Hs := Lib.hid hsk
        clear hsk
        by_cases h1 : s.size ≤ 100
        · go_wp2
          go_round
          case rel => exact ⟨k + 1, by omega, by go_num, Lib.hid (take_all_succ (p := fun x => x.t.size ≤ 100) hlt Hh.out (by show hl[k].t.size ≤ 100; rw [Hs.out]; exact h1))⟩
          case measure => simp [intOf]; omega
        · go_wp2
          go_ret
          exact ⟨true, rfl, (fun h => by cases h), he1⟩
      · have hh := Hh.out
        rw [List.take_of_length_le (by omega)] at hh
        have HH := Lib.hid hh
        clear hh Hh
        go_wp2
        go_loop [4] (fun i => ∃ k : Nat, k ≤ wl.length ∧ i = .int .i64 k ∧ Hid (∀ x ∈ wl.take k, x.t.size ≤ 100)) (fun i => wl.length - (intOf i).toNat)
        case atStart => exact ⟨0, Nat.zero_le _, rfl, Lib.hid (by simp)⟩
        case round =>
          obtain ⟨k, hk, rfl, Hh⟩ := hrel
          by_cases hlt : k < wl.length
          · obtain ⟨b, off, rfl, hb, hc0, _, _, _⟩ := wordAt hwsb hlt
            obtain ⟨s, hsk⟩ : ∃ s, wl[k].t = s := ⟨_, rfl⟩
            rw [hsk] at hc0
            have Hs := Lib.hid hsk
            clear hsk
            by_cases h1 : s.size ≤ 100
            · go_wp2
              go_round
              case rel => exact ⟨k + 1, by omega, by go_num, Lib.hid (take_all_succ (p := fun x => x.t.size ≤ 100) hlt Hh.out (by show wl[k].t.size ≤ 100; rw [Hs.out]; exact h1))⟩
              case measure => simp [intOf]; omega
            · go_wp2
              go_ret
              exact ⟨true, rfl, (fun h => by cases h), he1⟩
          · have hh := Hh.out
            rw [List.take_of_length_le (by omega)] at hh
            have HW := Lib.hid hh
            clear hh Hh
            go_wp2
            go_loopw [5] (fun i wr => ∃ k : Nat, k ≤ kids.length ∧ i = .int .i64 k ∧ Hid (AllUs nodeOk (kids.take k)) ∧ Ext wb wr) (fun i _ => kids.length - (intOf i).toNat)
            case atStart => exact ⟨0, Nat.zero_le _, rfl, Lib.hid (by rw [List.take_zero, AllUs]; trivial), Ext.refl _⟩
            case round =>
              obtain ⟨k, hk, rfl, Hh, hext⟩ := hrel
              have hcell := (Hbx.out _ hext).2.2.2.2.2.2.2.2
              try dsimp only at hcell
              by_cases hlt : k < kids.length
              · have c1 : decide ((k : Int) < (kids.length : Int)) = true := decide_eq_true (by omega)
                have hltr : k < rs.length := by omega
                obtain ⟨b, off, rfl, hb, u0, u1, u2, u3, u4, u5, u6, u7⟩ := unitAt ((hrs.ext he1).ext hext) hltr
                have hsub : SizeOf.sizeOf kids[k] ≤ N := by
                  have a1 := List.sizeOf_lt_of_mem (List.getElem_mem hlt)
                  have a2 := HN.out
                  simp at a2
                  omega
                have hrec := ih kids[k] rs[k] wr hsub (Reads.ext (he1.trans hext) _ _ (ReadsAll.get Hall.out k hlt hltr)) (HA.out.get k hlt)
                obtain ⟨q, hq⟩ : ∃ q, rs[k] = q := ⟨_, rfl⟩
                rw [hq] at u0 u1 u2 u3 u4 u5 u6 u7 hrec
                have Hrec := Lib.hid hrec
                clear hsub hrec hq
                go_wp2_with fail
                refine (Hrec.out).mono ?_
                rintro e w2 ⟨bq, rfl, hbq, hext2⟩
                cases bq with
                | true =>
                  clear hbq
                  go_wp2
                  go_ret
                  exact ⟨true, rfl, (fun h => by cases h), he1.trans (hext.trans hext2)⟩
                | false =>
                  have Hq := Lib.hid (AllUs_snoc kids k hlt Hh.out (hbq rfl))
                  clear hbq
                  go_wp2
                  go_roundw
                  case rel => exact ⟨k + 1, by omega, by go_num, Hq, hext.trans hext2⟩
                  case measure => simp [intOf]; omega
              · have hh := Hh.out
                rw [List.take_of_length_le (by omega)] at hh
                have HK := Lib.hid hh
                have c1 : decide ((k : Int) < (kids.length : Int)) = false := decide_eq_false (by omega)
                clear hh Hh
                go_wp2
                go_ret
                refine ⟨false, rfl, fun _ => ?_, he1.trans hext⟩
                rw [AllU]
                exact ⟨⟨by have := Hb1.out; omega, by have := Hb2.out; omega, by have := Hb3.out; omega, HH.out, HW.out⟩, HK.out⟩
theorem wordy_any : ∀ N, WordyAt N
  | 0 => fun u _ _ h => by obtain ⟨a, i, n, kd, lb, hl, wl, kids⟩ := u; simp at h
  | N + 1 => wordy_step N (wordy_any N)

/-- few units, short rows, short words -/
def smallU (u : GUnit) : Prop := cntF u ≤ 60 ∧ AllU nodeOk u
set_option maxRecDepth 100000 in
set_option maxHeartbeats 1600000 in
theorem big_any (u : GUnit) (r : RUnit) (w : World) (hr : Reads w u r) (hA : AllU (lensLe 9223372036854775807 9223372036854775807) u) :
    Calls Try.prog 10 #[.agg r.cells.toArray, .int .i64 60] w (RetB w (smallU u)) := by
  have Hs := Lib.hid (fun w' (he : Ext w w') => count_any _ u r 60 12 w' (Nat.le_refl _) (Reads.ext he u r hr) (by decide) (by decide) (by decide) (by decide))
  have Hw := Lib.hid (fun w' (he : Ext w w') => wordy_any _ u r w' (Nat.le_refl _) (Reads.ext he u r hr) hA)
  have he1 : Ext w (w.alloc (.cells r.cells.toArray 27)) := (Ext.refl w).alloc _
  have hb := fun w' he => boxUnit (w' := w') r (w := w) he
  obtain ⟨ra, ri, rn, rk, rl, hdA, hn, hc, wA, wn, wc, kA, kn, kc⟩ := r
  simp only [RUnit.cells] at Hs Hw he1 hb ⊢
  have Hb := Lib.hid hb
  clear hb hr hA
  go_enter Try.func10, Try.ntmps10
  go_wp2_with fail
  refine (Hs.out _ he1).mono ?_
  rintro e w2 ⟨z, rfl, hz1, hz2, hz3, hext2⟩
  obtain ⟨-, u0, u1, u2, u3, u4, u5, u6, u7⟩ := Hb.out _ hext2
  have Hz := Lib.hid hz3
  clear hz3
  by_cases hz : z ≤ 60
  · have e2 : decide (z > 60) = false := decide_eq_false (by omega)
    go_wp2_with fail
    refine (Hw.out _ (he1.trans hext2)).mono ?_
    rintro e w3 ⟨b, rfl, hbq, hext3⟩
    have Hbq := Lib.hid hbq
    clear hbq
    go_wp2
    go_ret
    exact ⟨b, rfl, fun h => ⟨by have := Hz.out hz; omega, Hbq.out h⟩, he1.trans (hext2.trans hext3)⟩
  · have e2 : decide (z > 60) = true := decide_eq_true (by omega)
    go_wp2
    go_ret
    exact ⟨true, rfl, (fun h => by cases h), he1.trans hext2⟩

end Go.Proofs.Ythjlnpcanccmkaa
