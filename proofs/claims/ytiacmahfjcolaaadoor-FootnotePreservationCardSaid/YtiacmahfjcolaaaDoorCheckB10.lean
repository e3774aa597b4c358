/- Check, Valid: the walks. -/
import Derived.Test.YtiacmahfjcolaaaDoorCheck10
namespace Go.Proofs.YtiacmahfjcolaaaDoor
open Go.RowKit

mutual
theorem AllU.pre {p : GUnit → Prop} : ∀ (u : GUnit), AllU p u → ∀ x ∈ preF u, p x
  | .mk a i n k l hd wd kids, h, x, hx => by
    rw [AllU] at h
    rw [preF] at hx
    rcases List.mem_cons.1 hx with rfl | hx
    · exact h.1
    · exact AllUs.pre kids h.2 x hx
theorem AllUs.pre {p : GUnit → Prop} : ∀ (us : List GUnit), AllUs p us → ∀ x ∈ preL us, p x
  | [], _, x, hx => by rw [preL] at hx; cases hx
  | u :: r, h, x, hx => by
    rw [AllUs] at h
    rw [preL] at hx
    rcases List.mem_append.1 hx with hx | hx
    · exact AllU.pre u h.1 x hx
    · exact AllUs.pre r h.2 x hx
end
/-- a tree that the walks can go through -/
structure OkT (u : GUnit) : Prop where
  sh : AllU shortU u
  ln : AllU (lensLe 9223372036854775807 9223372036854775807) u
  few : (preF u).length ≤ 1000
  hds : AllU (fun u => u.head.length ≤ 300) u
def validB (u : GUnit) : Bool := (checkF u).isEmpty

set_option maxRecDepth 100000 in
set_option maxHeartbeats 1600000 in
theorem check_any (u : GUnit) (r : RUnit) (w : World) (hr : Reads w u r) (hok : OkT u) :
    Calls Tryd.prog 19 #[.agg r.cells.toArray] w (RetOwn findEl w (checkF u)) := by
  have hx0 : Ext w ((w.alloc (.cells r.cells.toArray 27)).alloc (.cells #[.slice none 0 0] 36)) := ((Ext.refl w).alloc _).alloc _
  have hsz1 : (w.alloc (.cells r.cells.toArray 27)).heap.size = w.heap.size + 1 := by simp
  have hbB : ((w.alloc (.cells r.cells.toArray 27)).alloc (.cells #[.slice none 0 0] 36)).heap[w.heap.size + 1]? = some (.cells #[.slice none 0 0] 36 (0, 0)) := by
    have h1 := heap_alloc_new (w.alloc (.cells r.cells.toArray 27)) (.cells #[.slice none 0 0] 36)
    rwa [hsz1] at h1
  have hI0 : CInv findEl w (w.heap.size + 1) ownF (fun j => decide (j = w.heap.size + 1)) [] ((w.alloc (.cells r.cells.toArray 27)).alloc (.cells #[.slice none 0 0] 36)) :=
    ⟨hx0, by omega, by simp, fun j hj => by simp at hj; subst hj; exact block_lt hbB, _, hbB, Own.nil _, fun g hg => by cases hg⟩
  have hev := everyCheck (W0 := w) (fv := .pointer (some ⟨w.heap.size + 1, 0, none⟩)) (Inv := CInv findEl w (w.heap.size + 1) ownF) (P := shortU) (all := preF u) (fun _ _ _ h => h.ext) (fun _ _ _ _ h he => h.grow he) (fun _ _ _ h => h.lt)
    (fun p acc x rx w' _ _ hin hrx hI => visitCheck w (w.heap.size + 1) (preF u) hok.few (AllU.pre u hok.sh) p acc x rx w' hin hrx hI)
    _ u r _ [] _ (Nat.le_refl _) hr hok.sh hok.ln ⟨[], by simp⟩ hI0
  obtain ⟨ra, ri, rn, rk, rl, hdA, hn, hc, wA, wn, wc, kA, kn, kc⟩ := r
  simp only [RUnit.cells] at hx0 hev ⊢
  have HR := Lib.hid (checkF_pre u)
  have Hev := Lib.hid hev
  clear hev hI0 hbB hsz1 hr
  obtain ⟨wz, hwz⟩ : ∃ wz, (w.alloc (.cells #[.int .i64 ra, .int .i64 ri, .int .i64 rn, .int .i64 rk, .string rl, .slice hdA hn hc, .slice wA wn wc, .slice kA kn kc] 27)).alloc (.cells #[.slice none 0 0] 36) = wz := ⟨_, rfl⟩
  rw [hwz] at Hev hx0
  have Hwz := Lib.hid hwz
  clear hwz
  go_enter Tryd.func19, Tryd.ntmps19
  go_wp2_with fail
  rw [Hwz.out]
  refine (Hev.out).mono ?_
  rintro e w1 ⟨rfl, p1, hI1, -⟩
  obtain ⟨v1, hv1, ho1, -⟩ := hI1.out
  have hx1 := hI1.ext
  have hc1 : w1.cell? ⟨w.heap.size + 1, 0, none⟩ = some v1 := by simp [World.cell?, hv1]
  have Ho1 := Lib.hid ho1
  have Hx1 := Lib.hid hx1
  obtain ⟨A1, c1, rfl, -, -⟩ := ho1.form
  obtain ⟨Z, hZ⟩ : ∃ Z, List.flatMap ownF ([] ++ preF u) = Z := ⟨_, rfl⟩
  rw [hZ] at hc1 Ho1
  have HZ := Lib.hid hZ
  clear hI1 hv1 ho1 hx1 hZ
  go_wp2
  go_ret
  exact ⟨_, rfl, by rw [HR.out, ← List.nil_append (preF u), HZ.out]; exact Ho1.out.mono (by omega), Hx1.out⟩

set_option maxRecDepth 100000 in
set_option maxHeartbeats 1600000 in
theorem fvalid_any (u : GUnit) (r : RUnit) (w : World) (hr : Reads w u r) (hok : OkT u) :
    Calls Tryd.prog 20 #[.agg r.cells.toArray] w fun e w' => e = .returned (.bool (validB u)) ∧ Ext w w' := by
  have hx0 : Ext w (w.alloc (.cells r.cells.toArray 27)) := (Ext.refl w).alloc _
  have hck := check_any u r _ (Reads.ext hx0 _ _ hr) hok
  obtain ⟨ra, ri, rn, rk, rl, hdA, hn, hc, wA, wn, wc, kA, kn, kc⟩ := r
  simp only [RUnit.cells] at hx0 hck ⊢
  unfold validB
  obtain ⟨L, hL⟩ : ∃ L, checkF u = L := ⟨_, rfl⟩
  rw [hL] at hck ⊢
  have Hck := Lib.hid hck
  clear hck hL hr hok
  go_enter Tryd.func20, Tryd.ntmps20
  go_wp2_with fail
  refine (Hck.out).mono ?_
  rintro e w1 ⟨v1, rfl, ho1, hx1⟩
  obtain ⟨A1, c1, rfl, -, -⟩ := ho1.form
  clear ho1
  cases L with
  | nil =>
    simp only [List.length_nil, List.isEmpty_nil]
    go_wp2
    go_ret
    exact ⟨rfl, hx0.trans hx1⟩
  | cons x l =>
    have e1 : (((x :: l).length : Int) == 0) = false := by simp; omega
    obtain ⟨n, hn0⟩ : ∃ n, (x :: l).length = n := ⟨_, rfl⟩
    rw [hn0] at e1 ⊢
    simp only [List.isEmpty_cons]
    clear hn0
    go_wp2
    go_ret
    exact ⟨rfl, hx0.trans hx1⟩

end Go.Proofs.YtiacmahfjcolaaaDoor
