/- Notes; once, Alike: the walks. -/
import Derived.Test.YtiacmahfjcolaaaDoorNotes10
import Derived.Test.YtiacmahfjcolaaaDoorSame610
namespace Go.Proofs.YtiacmahfjcolaaaDoor
open Go.RowKit

set_option maxRecDepth 100000 in
set_option maxHeartbeats 1600000 in
theorem notes_any (u : GUnit) (r : RUnit) (w : World) (hr : Reads w u r) (hok : OkT u) :
    Calls Tryd.prog 22 #[.agg r.cells.toArray] w (RetOwn idEl w (notesF u)) := by
  have hx0 : Ext w ((w.alloc (.cells r.cells.toArray 27)).alloc (.cells #[.slice none 0 0] 41)) := ((Ext.refl w).alloc _).alloc _
  have hsz1 : (w.alloc (.cells r.cells.toArray 27)).heap.size = w.heap.size + 1 := by simp
  have hbB : ((w.alloc (.cells r.cells.toArray 27)).alloc (.cells #[.slice none 0 0] 41)).heap[w.heap.size + 1]? = some (.cells #[.slice none 0 0] 41 (0, 0)) := by
    have h1 := heap_alloc_new (w.alloc (.cells r.cells.toArray 27)) (.cells #[.slice none 0 0] 41)
    rwa [hsz1] at h1
  have hI0 : CInv idEl w (w.heap.size + 1) notesOwn (fun j => decide (j = w.heap.size + 1)) [] ((w.alloc (.cells r.cells.toArray 27)).alloc (.cells #[.slice none 0 0] 41)) :=
    ⟨hx0, by omega, by simp, fun j hj => by simp at hj; subst hj; exact block_lt hbB, _, hbB, Own.nil _, fun g hg => by cases hg⟩
  have hev := everyNotes (W0 := w) (fv := .pointer (some ⟨w.heap.size + 1, 0, none⟩)) (Inv := CInv idEl w (w.heap.size + 1) notesOwn) (P := shortU) (all := preF u) (fun _ _ _ h => h.ext) (fun _ _ _ _ h he => h.grow he) (fun _ _ _ h => h.lt)
    (fun p acc x rx w' _ _ hin hrx hI => visitNotes w (w.heap.size + 1) (preF u) hok.few (AllU.pre u hok.sh) p acc x rx w' hin hrx hI)
    _ u r _ [] _ (Nat.le_refl _) hr hok.sh hok.ln ⟨[], by simp⟩ hI0
  obtain ⟨ra, ri, rn, rk, rl, hdA, hn, hc, wA, wn, wc, kA, kn, kc⟩ := r
  simp only [RUnit.cells] at hx0 hev ⊢
  have HR := Lib.hid (notesF_pre u)
  have Hev := Lib.hid hev
  clear hev hI0 hbB hsz1 hr
  obtain ⟨wz, hwz⟩ : ∃ wz, (w.alloc (.cells #[.int .i64 ra, .int .i64 ri, .int .i64 rn, .int .i64 rk, .string rl, .slice hdA hn hc, .slice wA wn wc, .slice kA kn kc] 27)).alloc (.cells #[.slice none 0 0] 41) = wz := ⟨_, rfl⟩
  rw [hwz] at Hev hx0
  have Hwz := Lib.hid hwz
  clear hwz
  go_enter Tryd.func22, Tryd.ntmps22
  go_wp2_with fail
  rw [Hwz.out]
  refine (Hev.out).mono ?_
  rintro e w1 ⟨rfl, p1, hI1, -⟩
  obtain ⟨v1, hv1, ho1, -⟩ := hI1.out
  have hx1 := hI1.ext
  have hc1 : w1.cell? ⟨w.heap.size + 1, 0, none⟩ = some v1 := by simp [World.cell?, hv1]
  have Ho1 := Lib.hid ho1
  have Hx1 := Lib.hid hx1
  obtain ⟨A1, c1, rfl, -, -⟩ := ho1.form
  obtain ⟨Z, hZ⟩ : ∃ Z, List.flatMap notesOwn ([] ++ preF u) = Z := ⟨_, rfl⟩
  rw [hZ] at hc1 Ho1
  have HZ := Lib.hid hZ
  clear hI1 hv1 ho1 hx1 hZ
  go_wp2
  go_ret
  exact ⟨_, rfl, by rw [HR.out, ← List.nil_append (preF u), HZ.out]; exact Ho1.out.mono (by omega), Hx1.out⟩


/-- the distinct strings of a list -/
def onceF : List ByteArray → List ByteArray → List ByteArray
  | seen, [] => seen
  | seen, s :: r => if s ∈ seen then onceF seen r else onceF (seen ++ [s]) r
set_option maxRecDepth 100000 in
set_option maxHeartbeats 1600000 in
theorem once_any (A : Option Addr) (c : Nat) (l : List ByteArray) (w : World) (hl : Sl strEl w A l) (hn : l.length ≤ 1048576) :
    Calls Tryd.prog 45 #[.slice A l.length c] w (RetOwn strEl w (onceF [] l)) := by
  obtain ⟨R, hR⟩ : ∃ R, onceF [] l = R := ⟨_, rfl⟩
  rw [hR]
  have HR := Lib.hid (show onceF [] (l.drop 0) = R from hR)
  clear hR
  go_enter Tryd.func45, Tryd.ntmps45
  go_wp2
  go_loopw [3, 4] (fun vo vk wr => ∃ (k : Nat) (acc : List ByteArray), k ≤ l.length ∧ vk = .int .i64 (k : Nat) ∧ Hid (onceF acc (l.drop k) = R) ∧ acc.length ≤ k ∧ Own strEl w.heap.size wr vo acc ∧ Ext w wr) (fun _ vk _ => l.length - (intOf vk).toNat)
  case atStart => exact ⟨0, [], Nat.zero_le _, rfl, HR, Nat.le_refl _, Own.made strEl (Nat.le_refl _), (Ext.refl _).alloc _⟩
  case round =>
    obtain ⟨k, acc, hk, rfl, Hk, hal, hown, hext⟩ := hrel
    have hsz := hext.size
    by_cases hlt : k < l.length
    · obtain ⟨b, off, rfl, hb, hc0⟩ := strAt (hl.ext hext) hlt
      have hk2 := Hk.out
      rw [List.drop_eq_getElem_cons hlt, onceF] at hk2
      obtain ⟨s, hs⟩ : ∃ s, l[k] = s := ⟨_, rfl⟩
      rw [hs] at hc0 hk2
      obtain ⟨Ao, co, rfl, hco, hso⟩ := hown.form
      have hpl := place_any Ao co acc s wr hso (by omega)
      have hneg := placeI_neg acc s
      obtain ⟨J, hJ⟩ : ∃ J, placeI acc s = J := ⟨_, rfl⟩
      rw [hJ] at hpl hneg
      have Hpl := Lib.hid hpl
      have d1 : decide ((k : Int) < (l.length : Int)) = true := decide_eq_true (by omega)
      clear hs hpl hJ
      by_cases hm : s ∈ acc
      · rw [if_pos hm] at hk2
        have d2 : decide (J < 0) = false := decide_eq_false (fun h => hneg.1 h hm)
        have HK2 := Lib.hid hk2
        clear hk2 hm hneg
        go_wp2_with fail
        refine (Hpl.out).mono ?_
        rintro e w2 ⟨rfl, rfl⟩
        go_wp2
        go_roundw
        case rel => exact ⟨k + 1, acc, by omega, by go_num, HK2, by omega, hown, hext⟩
        case measure => simp [intOf]; omega
      · rw [if_neg hm] at hk2
        have d2 : decide (J < 0) = true := decide_eq_true (hneg.2 hm)
        have HK2 := Lib.hid hk2
        clear hk2 hm hneg
        go_wp2_with fail
        refine (Hpl.out).mono ?_
        rintro e w2 ⟨rfl, rfl⟩
        go_wp2_with (at_builtin; refine wpList_app strEl rfl _ _ rfl 1 rfl (hown.ext (Ext.alloc (Ext.refl _) _)) (ys := [s]) rfl (Sl.new strEl rfl) (by simp; omega) (by simp; omega) ?_; intro v' w3 hown' hb3 hg3)
        go_roundw
        case rel => exact ⟨k + 1, acc ++ [s], by omega, by go_num, HK2, by simp; omega, hown', (hext.alloc _).trans' hb3⟩
        case measure => simp [intOf]; omega
    · have hk2 := Hk.out
      rw [List.drop_of_length_le (by omega), onceF] at hk2
      have HK2 := Lib.hid hk2
      have d1 : decide ((k : Int) < (l.length : Int)) = false := decide_eq_false (by omega)
      clear hk2
      go_wp2
      go_ret
      exact ⟨_, rfl, by rw [← HK2.out]; exact hown, hext⟩

theorem idNeq (w : World) (x y : GId) : (binOp .neq 23 (.agg #[.int .i64 x.a, .int .i64 x.i, .int .i64 x.n]) (.agg #[.int .i64 y.a, .int .i64 y.i, .int .i64 y.n])).run Tryd.prog w = .ok (.bool (!decide (x = y))) w := by
  rw [run_neq_struct, eqId0]
  simp only [Result.andThen_ok]
  congr 3
  cases x; cases y
  simp
theorem idAt {w : World} {A : Option Addr} {xs : List GId} (h : Sl idEl w A xs) {k : Nat} (hk : k < xs.length) : ∃ b off, A = some ⟨b, off, none⟩ ∧ b < w.heap.size ∧ w.cell? ⟨b, off + k * 3, none⟩ = some (.int .i64 xs[k].a) ∧ w.cell? ⟨b, off + k * 3 + 1, none⟩ = some (.int .i64 xs[k].i) ∧ w.cell? ⟨b, off + k * 3 + 2, none⟩ = some (.int .i64 xs[k].n) := by
  obtain ⟨b, off, hA, hb, hc⟩ := h.at_ hk
  exact ⟨b, off, hA, hb, by simpa [idEl] using hc 0 _ rfl, hc 1 _ rfl, hc 2 _ rfl⟩

set_option maxRecDepth 100000 in
set_option maxHeartbeats 400000 in
theorem alike_any (A B : Option Addr) (c d : Nat) (xs ys : List GId) (w : World) (hx : Sl idEl w A xs) (hy : Sl idEl w B ys) (hn : xs.length ≤ 9223372036854775807) :
    Calls Tryd.prog 21 #[.slice A xs.length c, .slice B ys.length d] w fun e w' => e = .returned (.bool (decide (xs = ys))) ∧ ∃ m, w' = w.drewN m := by
  by_cases hl : xs.length = ys.length
  · have hle : ((xs.length : Int) != (ys.length : Int)) = false := by simp [hl]
    have Hl := Lib.hid hl
    clear hl
    go_enter Tryd.func21, Tryd.ntmps21
    go_wp2
    go_loopw [5] (fun i wr => ∃ k : Nat, k ≤ xs.length ∧ i = .int .i64 k ∧ xs.take k = ys.take k ∧ ∃ m, wr = w.drewN m) (fun i _ => xs.length - (intOf i).toNat)
    case atStart => exact ⟨0, Nat.zero_le _, rfl, rfl, 0, rfl⟩
    case round =>
      obtain ⟨k, hk, rfl, heq, m, rfl⟩ := hrel
      have Heq := Lib.hid heq
      clear heq
      by_cases hlt : k < xs.length
      · have hlt' : k < ys.length := by rw [← Hl.out]; exact hlt
        obtain ⟨b, off, rfl, hb, hc0, hc1, hc2⟩ := idAt hx hlt
        obtain ⟨b', off', rfl, hb', hd0, hd1, hd2⟩ := idAt hy hlt'
        obtain ⟨s, hs⟩ : ∃ s, xs[k] = s := ⟨_, rfl⟩
        obtain ⟨s', hs'⟩ : ∃ s, ys[k] = s := ⟨_, rfl⟩
        rw [hs] at hc0 hc1 hc2
        rw [hs'] at hd0 hd1 hd2
        have Hs := Lib.hid hs
        have Hs' := Lib.hid hs'
        clear hs hs'
        by_cases he : s = s'
        · have hq := fun W => (idNeq W s s').trans (by rw [decide_eq_true he])
          have He := Lib.hid he
          clear he
          go_wp2
          go_quiet (fail)
          go_wp2
          go_roundw
          case rel => exact ⟨k + 1, by omega, by go_num, (take_succ_eq_iff hlt hlt').2 ⟨Heq.out, by rw [Hs.out, Hs'.out, He.out]⟩, _, rfl⟩
          case measure => simp [intOf]; omega
        · have hq := fun W => (idNeq W s s').trans (by rw [decide_eq_false he])
          go_wp2
          go_quiet (fail)
          go_wp2
          go_ret
          refine ⟨ret_bool (decide_eq_false ?_).symm, _, World.drewN_drewN _ _ _⟩
          rintro rfl
          exact he (Hs.out.symm.trans Hs'.out)
      · obtain rfl : k = xs.length := by omega
        go_wp2
        go_ret
        refine ⟨ret_bool (decide_eq_true ?_).symm, _, rfl⟩
        have := Heq.out
        rwa [List.take_length, Hl.out, List.take_length] at this
  · have hle : ((xs.length : Int) != (ys.length : Int)) = true := by simp; omega
    go_enter Tryd.func21, Tryd.ntmps21
    go_wp2
    go_ret
    refine ⟨ret_bool (decide_eq_false ?_).symm, 0, rfl⟩
    rintro rfl
    exact hl rfl


end Go.Proofs.YtiacmahfjcolaaaDoor
