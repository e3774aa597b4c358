/- once: the old marks occur once and in order with their words, the new ones are numbered in order. -/
import Derived.Test.YtkbmocgjbhmioaaRepIns
namespace Go.Proofs.Ytkbmocgjbhmioaa
open Go.RowKit

def onceF (w : List GWord) : Int → Int → List GWord → Bool
  | _, _, [] => true
  | o, f, x :: xs => if x.a = 3 then (if x.k ≤ o then false else if (w.length : Int) ≤ x.k then false else if w[x.k.toNat]? = some x then onceF w x.k f xs else false) else if (x.a, x.i, x.k) = (7, 1, f) then onceF w o (f + 1) xs else false

theorem markNeq (w : World) (a b c a' b' c' : Int) : (binOp .neq 57 (.agg #[.int .i64 a, .int .i64 b, .int .i64 c]) (.agg #[.int .i64 a', .int .i64 b', .int .i64 c'])).run Try.prog w = .ok (.bool (!decide ((a, b, c) = (a', b', c')))) w := by
  have u3 := Try.underlying3
  have hS : Try.prog.underlying 57 = some (.struct (Try.prog.fieldsOf 57)) := by kernel_rfl
  rw [run_neq_struct, show (10000 : Nat) = 9999 + 1 from rfl, run_equalIn_agg w 9999 57 _ _ hS (by kernel_rfl)]
  simp only [Program.fieldsOf, Try.underlying57]
  go_simp
  by_cases h1 : a = a' <;> by_cases h2 : b = b' <;> by_cases h3 : c = c' <;> simp [h1, h2, h3]

set_option maxRecDepth 100000 in
set_option maxHeartbeats 1600000 in
theorem once_any (A B : Option Addr) (c d : Nat) (l ws : List GWord) (w : World) (hl : Sl wordEl w A l) (hw : Sl wordEl w B ws) (hn : l.length ≤ 1000000000) (hm : ws.length ≤ 1000000000) :
    Calls Try.prog 18 #[.slice A l.length c, .slice B ws.length d] w fun e w' => e = .returned (.bool (onceF ws (-1) 0 l)) ∧ ∃ m, w' = w.drewN m := by
  obtain ⟨r, hr⟩ : ∃ r, onceF ws (-1) 0 l = r := ⟨_, rfl⟩
  rw [hr]
  have Hr := Lib.hid hr
  clear hr
  go_enter Try.func18, Try.ntmps18
  go_wp2
  go_loopw [5, 6, 7] (fun o f i wr => ∃ (k : Nat) (o' f' : Int), k ≤ l.length ∧ i = .int .i64 k ∧ o = .int .i64 o' ∧ f = .int .i64 f' ∧ -1 ≤ o' ∧ 0 ≤ f' ∧ f' ≤ k ∧ Hid (onceF ws o' f' (l.drop k) = r) ∧ ∃ m, wr = w.drewN m) (fun _ _ i _ => l.length - (intOf i).toNat)
  case atStart => exact ⟨0, -1, 0, Nat.zero_le _, rfl, rfl, rfl, by omega, by omega, by omega, Hr, 0, rfl⟩
  case round =>
    obtain ⟨k, o', f', hk, rfl, rfl, rfl, ho, hf0, hfk, Hon, m, rfl⟩ := hrel
    by_cases hlt : k < l.length
    · obtain ⟨b, off, rfl, hb, hc0, hc1, hc2, hc3⟩ := wordAt hl hlt
      have hdr : l.drop k = l[k] :: l.drop (k + 1) := List.drop_eq_getElem_cons hlt
      obtain ⟨s, hs⟩ : ∃ s, l[k] = s := ⟨_, rfl⟩
      rw [hs] at hc0 hc1 hc2 hc3 hdr
      obtain ⟨t, sa, si, sk⟩ := s
      dsimp only at hc0 hc1 hc2 hc3
      have Hon' : Hid ((if sa = 3 then (if sk ≤ o' then false else if (ws.length : Int) ≤ sk then false else if ws[sk.toNat]? = some ⟨t, sa, si, sk⟩ then onceF ws sk f' (l.drop (k + 1)) else false) else if (sa, si, sk) = (7, 1, f') then onceF ws o' (f' + 1) (l.drop (k + 1)) else false) = r) := by
        have := Hon.out
        rw [hdr, onceF] at this
        exact this
      clear hs hdr Hon
      by_cases h3 : sa = 3
      · subst h3
        have Hon2 := Lib.hid (Hon'.out)
        have Hon3 : Hid ((if sk ≤ o' then false else if (ws.length : Int) ≤ sk then false else if ws[sk.toNat]? = some ⟨t, 3, si, sk⟩ then onceF ws sk f' (l.drop (k + 1)) else false) = r) := by
          have := Hon'.out
          rw [if_pos rfl] at this
          exact this
        clear Hon' Hon2
        by_cases h4 : sk ≤ o'
        · have e4 : decide (sk ≤ o') = true := decide_eq_true h4
          have H4 := Lib.hid h4
          clear h4
          go_wp2
          go_quiet (fail)
          go_wp2
          go_ret
          refine ⟨ret_bool ?_, _, World.drewN_drewN _ _ _⟩
          have := Hon3.out
          rw [if_pos H4.out] at this
          exact this
        · have e4 : decide (sk ≤ o') = false := decide_eq_false h4
          have H4 := Lib.hid h4
          by_cases h5 : (ws.length : Int) ≤ sk
          · have e5 : decide (sk ≥ (ws.length : Int)) = true := decide_eq_true h5
            have H5 := Lib.hid h5
            clear h4 h5
            go_wp2
            go_quiet (fail)
            go_wp2
            go_ret
            refine ⟨ret_bool ?_, _, World.drewN_drewN _ _ _⟩
            have := Hon3.out
            rw [if_neg (show ¬ _ by have := H4.out; omega), if_pos H5.out] at this
            exact this
          · have H5 := Lib.hid h5
            obtain ⟨n, hnk⟩ : ∃ n : Nat, sk = n := ⟨sk.toNat, by omega⟩
            subst hnk
            have e5 : decide ((n : Int) ≥ (ws.length : Int)) = false := decide_eq_false h5
            have hn' : n < ws.length := by omega
            obtain ⟨b', off', rfl, hb', hd0, hd1, hd2, hd3⟩ := wordAt hw hn'
            obtain ⟨s', hs'⟩ : ∃ s', ws[n] = s' := ⟨_, rfl⟩
            rw [hs'] at hd0 hd1 hd2 hd3
            have hget : ws[((n : Int)).toNat]? = some s' := by rw [Int.toNat_natCast, List.getElem?_eq_getElem hn', hs']
            have Hget := Lib.hid hget
            clear hs' hget h4 h5
            by_cases he : (⟨t, 3, si, n⟩ : GWord) = s'
            · subst he
              have hq := fun W => (wordNeq W ⟨t, 3, si, n⟩ ⟨t, 3, si, n⟩).trans (by rw [decide_eq_true rfl])
              dsimp only at hd0 hd1 hd2 hd3
              go_wp2
              go_quiet (fail)
              go_wp2
              go_roundw
              case rel =>
                refine ⟨k + 1, n, f', by omega, by go_num, rfl, rfl, by omega, hf0, by omega, Lib.hid ?_, _, rfl⟩
                have := Hon3.out
                rw [if_neg (show ¬ _ by have := H4.out; omega), if_neg (show ¬ _ by have := H5.out; omega), if_pos Hget.out] at this
                exact this
              case measure => simp [intOf]; omega
            · have hq := fun W => (wordNeq W ⟨t, 3, si, n⟩ s').trans (by rw [decide_eq_false he])
              have He := Lib.hid he
              clear he
              go_wp2
              go_quiet (fail)
              go_wp2
              go_ret
              refine ⟨ret_bool ?_, _, World.drewN_drewN _ _ _⟩
              have := Hon3.out
              rw [if_neg (show ¬ _ by have := H4.out; omega), if_neg (show ¬ _ by have := H5.out; omega), Hget.out, if_neg (fun h => He.out (Option.some.inj h).symm)] at this
              exact this
      · have e3 : (sa == (3 : Int)) = false := beq_eq_false_iff_ne.2 h3
        have Hon3 : Hid ((if (sa, si, sk) = (7, 1, f') then onceF ws o' (f' + 1) (l.drop (k + 1)) else false) = r) := by
          have := Hon'.out
          rw [if_neg h3] at this
          exact this
        have H3 := Lib.hid h3
        clear Hon' h3
        by_cases he : (sa, si, sk) = (7, 1, f')
        · have hq := fun W => (markNeq W sa si sk 7 1 f').trans (by rw [decide_eq_true he])
          have He := Lib.hid he
          clear he
          go_wp2
          go_roundw
          case rel =>
            refine ⟨k + 1, o', f' + 1, by omega, by go_num, rfl, by go_num, by omega, by omega, by omega, Lib.hid ?_, m, rfl⟩
            have := Hon3.out
            rw [if_pos He.out] at this
            exact this
          case measure => simp [intOf]; omega
        · have hq := fun W => (markNeq W sa si sk 7 1 f').trans (by rw [decide_eq_false he])
          have He := Lib.hid he
          clear he
          go_wp2
          go_ret
          refine ⟨ret_bool ?_, m, rfl⟩
          have := Hon3.out
          rw [if_neg He.out] at this
          exact this
    · obtain rfl : k = l.length := by omega
      have : r = true := by
        have := Hon.out
        rw [List.drop_length] at this
        exact this.symm
      subst this
      go_wp2
      go_ret
      exact ⟨rfl, _, rfl⟩

end Go.Proofs.Ytkbmocgjbhmioaa
