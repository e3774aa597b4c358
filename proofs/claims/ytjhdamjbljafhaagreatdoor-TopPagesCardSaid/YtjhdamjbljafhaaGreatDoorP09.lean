/- The reference's Count, Depth, All, Ids. The reference's Ids: no two units bear the same ID, or all bear none. -/
import Derived.Test.YtjhdamjbljafhaaGreatDoorP08
namespace Go.Proofs.YtjhdamjbljafhaaGreatDoor
open Go.RowKit
def count6At (N : Nat) : Prop := ∀ (u : GUnit) (r : RUnit) (w : World), SizeOf.sizeOf u ≤ N → Reads w u r → OkU u → Calls Tryz.prog 29 #[.agg r.cells.toArray] w (fun e w' => e = .returned (.int .i64 (cntF (u) : Nat)) ∧ Ext w w')
set_option maxRecDepth 100000 in
set_option maxHeartbeats 1600000 in
theorem count6_step (N : Nat) (ih : count6At N) : count6At (N + 1) := by
  intro u r w hN hr hok
  obtain ⟨hid, hkd, hlb, hhn, hhc, hhs, hwn, hwc, hws, hkn, hkc, rs, hrs, hall, hrl⟩ := hr.flds
  have hcu := hok.cnt
  rw [cntF_kids] at hcu
  have hkl := cntL_len u.kids
  have Hrec := Lib.hid (show ∀ (k : Nat) (h : k < u.kids.length) (h2 : k < rs.length) (wq : World), Ext w wq → Calls Tryz.prog 29 #[.agg rs[k].cells.toArray] wq (fun e w' => e = .returned (.int .i64 (cntF (u.kids[k]) : Nat)) ∧ Ext wq w') from fun k h h2 wq hq => ih u.kids[k] rs[k] wq (sizeKid hN h) (Reads.ext hq _ _ (ReadsAll.get hall k h h2)) (hok.kid (List.getElem_mem h)))
  obtain ⟨R, hR⟩ : ∃ R, u = R := ⟨_, rfl⟩
  obtain ⟨kids, hkk⟩ : ∃ kids, u.kids = kids := ⟨_, rfl⟩
  have Hu := Lib.hid hkk
  have hb := BoxU.new r w
  have he1 : Ext w (w.alloc (.cells r.cells.toArray 27)) := (Ext.refl w).alloc _
  obtain ⟨ra, ri, rn, rk, rl, hdA, hn, hc, wA, wn, wc, kA, kn, kc⟩ := r
  dsimp only at hid hkd hlb hhn hhc hhs hwn hwc hws hkn hkc hrs
  rw [← hrl] at hkn hkc
  subst hkn
  simp only [RUnit.cells] at hb he1 Hrec ⊢
  obtain ⟨wb, hwb⟩ : ∃ wb, w.alloc (.cells #[.int .i64 ra, .int .i64 ri, .int .i64 rn, .int .i64 rk, .string rl, .slice hdA hn hc, .slice wA wn wc, .slice kA rs.length kc] 27) = wb := ⟨_, rfl⟩
  rw [hwb] at hb he1
  have Hws := Lib.hid (show w.heap.size + 1 = wb.heap.size by rw [← hwb]; simp)
  have Hwb := Lib.hid hwb
  have Hbx := Lib.hid hb
  rw [hkk] at hcu hkl Hrec hrl
  have hrb : rs.length ≤ 1000 := by omega
  have Hrl := Lib.hid hrl
  have Hid := Lib.hid hid
  have Hcu := Lib.hid hcu
  clear hR hkk hwb hb ih hN hr hok hid hkd hlb hhn hhc hhs hwn hwc hws hall hrl hcu
  rw [cntF_kids, Hu.out]
  go_enter Tryz.func29, Tryz.ntmps29
  go_wp2
  rw [Hwb.out]
  go_loopw [3, 4] (fun vn vi wr => ∃ k : Nat, k ≤ rs.length ∧ vn = .int .i64 ((1 + cntL (kids.take k) : Nat) : Int) ∧ vi = .int .i64 (k : Nat) ∧ Ext wb wr) (fun _ vi _ => rs.length - (intOf vi).toNat)
  case atStart => exact ⟨0, Nat.zero_le _, by simp [cntL], rfl, Ext.refl _⟩
  case round =>
    obtain ⟨k, hk, rfl, rfl, hext⟩ := hrel
    have hcell := (Hbx.out.ext hext).c7
    dsimp only at hcell
    by_cases hlt : k < rs.length
    · have hltk : k < kids.length := by rw [← Hrl.out]; exact hlt
      have d1 : decide ((k : Int) < (rs.length : Int)) = true := decide_eq_true (by omega)
      obtain ⟨q, hq⟩ : ∃ q, rs[k] = q := ⟨_, rfl⟩
      obtain ⟨b, off, rfl, hb, u0, u1, u2, u3, u4, u5, u6, u7⟩ := unitAtK (hrs.ext (he1.trans hext)) hlt hq
      have hrec := Hrec.out k hltk hlt wr (he1.trans hext)
      rw [hq] at hrec
      have Hr2 := Lib.hid hrec
      have ht := cntL_take hltk
      have hle : cntL (kids.take (k + 1)) ≤ 1000 := by
        have h1 : cntL kids = cntL (kids.take (k + 1)) + cntL (kids.drop (k + 1)) := by
          rw [← preL_len, ← preL_len, ← preL_len, ← List.length_append, ← preL_append, List.take_append_drop]
        have := Hcu.out
        omega
      obtain ⟨m, hm⟩ : ∃ m, cntL (kids.take k) = m := ⟨_, rfl⟩
      obtain ⟨c, hc2⟩ : ∃ c, cntF kids[k] = c := ⟨_, rfl⟩
      rw [hc2] at Hr2 ht
      rw [hm] at ht ⊢
      have Ht := Lib.hid ht
      have hmc : m + c ≤ 1000 := by omega
      clear hrec hq hm hc2 ht hle
      go_wp2_with fail
      refine (Hr2.out).mono ?_
      rintro e w2 ⟨rfl, hx2⟩
      go_wp2
      go_roundw
      case rel => exact ⟨k + 1, by omega, by rw [Ht.out]; go_num, by go_num, hext.trans hx2⟩
      case measure => simp [intOf]; omega
    · have d1 : decide ((k : Int) < (rs.length : Int)) = false := decide_eq_false (by omega)
      rw [List.take_of_length_le (by rw [← Hrl.out]; omega)]
      go_wp2
      go_ret
      exact ⟨rfl, he1.trans hext⟩
theorem count6_any : ∀ N, count6At N
  | 0 => fun _ _ _ h => (size0 h).elim
  | N + 1 => count6_step N (count6_any N)
def depth6At (N : Nat) : Prop := ∀ (u : GUnit) (r : RUnit) (w : World), SizeOf.sizeOf u ≤ N → Reads w u r → OkU u → Calls Tryz.prog 28 #[.agg r.cells.toArray] w (fun e w' => ∃ d : Nat, e = .returned (.int .i64 (d : Nat)) ∧ d ≤ cntF (u) ∧ Ext w w')
set_option maxRecDepth 100000 in
set_option maxHeartbeats 1600000 in
theorem depth6_step (N : Nat) (ih : depth6At N) : depth6At (N + 1) := by
  intro u r w hN hr hok
  obtain ⟨hid, hkd, hlb, hhn, hhc, hhs, hwn, hwc, hws, hkn, hkc, rs, hrs, hall, hrl⟩ := hr.flds
  have hcu := hok.cnt
  rw [cntF_kids] at hcu
  have hkl := cntL_len u.kids
  have Hrec := Lib.hid (show ∀ (k : Nat) (h : k < u.kids.length) (h2 : k < rs.length) (wq : World), Ext w wq → Calls Tryz.prog 28 #[.agg rs[k].cells.toArray] wq (fun e w' => ∃ d : Nat, e = .returned (.int .i64 (d : Nat)) ∧ d ≤ cntF (u.kids[k]) ∧ Ext wq w') from fun k h h2 wq hq => ih u.kids[k] rs[k] wq (sizeKid hN h) (Reads.ext hq _ _ (ReadsAll.get hall k h h2)) (hok.kid (List.getElem_mem h)))
  obtain ⟨R, hR⟩ : ∃ R, u = R := ⟨_, rfl⟩
  obtain ⟨kids, hkk⟩ : ∃ kids, u.kids = kids := ⟨_, rfl⟩
  have Hu := Lib.hid hkk
  have hb := BoxU.new r w
  have he1 : Ext w (w.alloc (.cells r.cells.toArray 27)) := (Ext.refl w).alloc _
  obtain ⟨ra, ri, rn, rk, rl, hdA, hn, hc, wA, wn, wc, kA, kn, kc⟩ := r
  dsimp only at hid hkd hlb hhn hhc hhs hwn hwc hws hkn hkc hrs
  rw [← hrl] at hkn hkc
  subst hkn
  simp only [RUnit.cells] at hb he1 Hrec ⊢
  obtain ⟨wb, hwb⟩ : ∃ wb, w.alloc (.cells #[.int .i64 ra, .int .i64 ri, .int .i64 rn, .int .i64 rk, .string rl, .slice hdA hn hc, .slice wA wn wc, .slice kA rs.length kc] 27) = wb := ⟨_, rfl⟩
  rw [hwb] at hb he1
  have Hws := Lib.hid (show w.heap.size + 1 = wb.heap.size by rw [← hwb]; simp)
  have Hwb := Lib.hid hwb
  have Hbx := Lib.hid hb
  rw [hkk] at hcu hkl Hrec hrl
  have hrb : rs.length ≤ 1000 := by omega
  have Hrl := Lib.hid hrl
  have Hid := Lib.hid hid
  have Hcu := Lib.hid hcu
  clear hR hkk hwb hb ih hN hr hok hid hkd hlb hhn hhc hhs hwn hwc hws hall hrl hcu
  rw [cntF_kids, Hu.out]
  go_enter Tryz.func28, Tryz.ntmps28
  go_wp2
  rw [Hwb.out]
  go_loopw [3, 4] (fun vn vi wr => ∃ (k d : Nat), k ≤ rs.length ∧ vn = .int .i64 (d : Nat) ∧ d ≤ 1 + cntL kids ∧ vi = .int .i64 (k : Nat) ∧ Ext wb wr) (fun _ vi _ => rs.length - (intOf vi).toNat)
  case atStart => exact ⟨0, 0, Nat.zero_le _, rfl, by omega, rfl, Ext.refl _⟩
  case round =>
    obtain ⟨k, d, hk, rfl, hd, rfl, hext⟩ := hrel
    have hcell := (Hbx.out.ext hext).c7
    dsimp only at hcell
    by_cases hlt : k < rs.length
    · have hltk : k < kids.length := by rw [← Hrl.out]; exact hlt
      have d1 : decide ((k : Int) < (rs.length : Int)) = true := decide_eq_true (by omega)
      obtain ⟨q, hq⟩ : ∃ q, rs[k] = q := ⟨_, rfl⟩
      obtain ⟨b, off, rfl, hb, u0, u1, u2, u3, u4, u5, u6, u7⟩ := unitAtK (hrs.ext (he1.trans hext)) hlt hq
      have hrec := Hrec.out k hltk hlt wr (he1.trans hext)
      rw [hq] at hrec
      have Hr2 := Lib.hid hrec
      have hcm := Lib.hid (cntL_mem (List.getElem_mem hltk))
      have hcu := Hcu.out
      clear hrec hq
      go_wp2_with fail
      refine (Hr2.out).mono ?_
      rintro e w2 ⟨d2, rfl, hd2, hx2⟩
      have hd3 : d2 ≤ cntL kids := Nat.le_trans hd2 hcm.out
      clear hd2 Hr2
      have hb2 : d2 ≤ 1000 := by omega
      by_cases hmx : (d : Int) ≤ 1 + (d2 : Int)
      · go_wp2
        go_roundw
        case rel => exact ⟨k + 1, 1 + d2, by omega, by simp <;> omega, by omega, by go_num, hext.trans hx2⟩
        case measure => simp [intOf]; omega
      · go_wp2
        go_roundw
        case rel => exact ⟨k + 1, d, by omega, by simp <;> omega, by omega, by go_num, hext.trans hx2⟩
        case measure => simp [intOf]; omega
    · have d1 : decide ((k : Int) < (rs.length : Int)) = false := decide_eq_false (by omega)
      go_wp2
      go_ret
      exact ⟨d, rfl, hd, he1.trans hext⟩
theorem depth6_any : ∀ N, depth6At N
  | 0 => fun _ _ _ h => (size0 h).elim
  | N + 1 => depth6_step N (depth6_any N)
theorem ids_take {kids : List GUnit} {k : Nat} (hk : k < kids.length) (x : GId) : (x :: (preL (kids.take (k + 1))).map GUnit.id) = (x :: (preL (kids.take k)).map GUnit.id) ++ (preF kids[k]).map GUnit.id := by
  rw [preL_take hk, List.map_append]; rfl
def all6At (N : Nat) : Prop := ∀ (u : GUnit) (r : RUnit) (w : World), SizeOf.sizeOf u ≤ N → Reads w u r → OkU u → Calls Tryz.prog 49 #[.agg r.cells.toArray] w (fun e w' => ∃ v, e = .returned v ∧ Own idEl (w).heap.size w' v ((preF (u)).map GUnit.id) ∧ Ext w w')
set_option maxRecDepth 100000 in
set_option maxHeartbeats 1600000 in
theorem all6_step (N : Nat) (ih : all6At N) : all6At (N + 1) := by
  intro u r w hN hr hok
  obtain ⟨hid, hkd, hlb, hhn, hhc, hhs, hwn, hwc, hws, hkn, hkc, rs, hrs, hall, hrl⟩ := hr.flds
  have hcu := hok.cnt
  rw [cntF_kids] at hcu
  have hkl := cntL_len u.kids
  have Hrec := Lib.hid (show ∀ (k : Nat) (h : k < u.kids.length) (h2 : k < rs.length) (wq : World), Ext w wq → Calls Tryz.prog 49 #[.agg rs[k].cells.toArray] wq (fun e w' => ∃ v, e = .returned v ∧ Own idEl (wq).heap.size w' v ((preF (u.kids[k])).map GUnit.id) ∧ Ext wq w') from fun k h h2 wq hq => ih u.kids[k] rs[k] wq (sizeKid hN h) (Reads.ext hq _ _ (ReadsAll.get hall k h h2)) (hok.kid (List.getElem_mem h)))
  obtain ⟨R, hR⟩ : ∃ R, u = R := ⟨_, rfl⟩
  obtain ⟨kids, hkk⟩ : ∃ kids, u.kids = kids := ⟨_, rfl⟩
  have Hu := Lib.hid hkk
  have hb := BoxU.new r w
  have he1 : Ext w (w.alloc (.cells r.cells.toArray 27)) := (Ext.refl w).alloc _
  obtain ⟨ra, ri, rn, rk, rl, hdA, hn, hc, wA, wn, wc, kA, kn, kc⟩ := r
  dsimp only at hid hkd hlb hhn hhc hhs hwn hwc hws hkn hkc hrs
  rw [← hrl] at hkn hkc
  subst hkn
  simp only [RUnit.cells] at hb he1 Hrec ⊢
  obtain ⟨wb, hwb⟩ : ∃ wb, w.alloc (.cells #[.int .i64 ra, .int .i64 ri, .int .i64 rn, .int .i64 rk, .string rl, .slice hdA hn hc, .slice wA wn wc, .slice kA rs.length kc] 27) = wb := ⟨_, rfl⟩
  rw [hwb] at hb he1
  have Hws := Lib.hid (show w.heap.size + 1 = wb.heap.size by rw [← hwb]; simp)
  have Hwb := Lib.hid hwb
  have Hbx := Lib.hid hb
  rw [hkk] at hcu hkl Hrec hrl
  have hrb : rs.length ≤ 1000 := by omega
  have Hrl := Lib.hid hrl
  have Hid := Lib.hid hid
  have Hcu := Lib.hid hcu
  clear hR hkk hwb hb ih hN hr hok hid hkd hlb hhn hhc hhs hwn hwc hws hall hrl hcu
  rw [preF_cons, List.map_cons, Hu.out, ← Hid.out]
  go_enter Tryz.func49, Tryz.ntmps49
  go_wp2
  rw [Hwb.out]
  go_loopw [3, 4] (fun vn vi wr => ∃ k : Nat, k ≤ rs.length ∧ vi = .int .i64 (k : Nat) ∧ Own idEl wb.heap.size wr vn (⟨ra, ri, rn⟩ :: (preL (kids.take k)).map GUnit.id) ∧ Ext wb wr) (fun _ vi _ => rs.length - (intOf vi).toNat)
  case atStart => exact ⟨0, Nat.zero_le _, rfl, by rw [List.take_zero, preL, Hws.out]; exact Own.lit idEl (xs := [⟨ra, ri, rn⟩]) (Nat.le_refl _) (by simp) rfl, (Ext.refl _).alloc _⟩
  case round =>
    obtain ⟨k, hk, rfl, hown, hext⟩ := hrel
    have hcell := (Hbx.out.ext hext).c7
    dsimp only at hcell
    by_cases hlt : k < rs.length
    · have hltk : k < kids.length := by rw [← Hrl.out]; exact hlt
      have d1 : decide ((k : Int) < (rs.length : Int)) = true := decide_eq_true (by omega)
      obtain ⟨q, hq⟩ : ∃ q, rs[k] = q := ⟨_, rfl⟩
      obtain ⟨b, off, rfl, hb, u0, u1, u2, u3, u4, u5, u6, u7⟩ := unitAtK (hrs.ext (he1.trans hext)) hlt hq
      have hrec := Hrec.out k hltk hlt wr (he1.trans hext)
      rw [hq] at hrec
      have Hr2 := Lib.hid hrec
      have hl1 : (preL (kids.take k)).length + cntF kids[k] ≤ 1000 := by
        have h1 : cntL kids = cntL (kids.take (k + 1)) + cntL (kids.drop (k + 1)) := by
          rw [← preL_len, ← preL_len, ← preL_len, ← List.length_append, ← preL_append, List.take_append_drop]
        have h2 := cntL_take hltk
        have := Hcu.out
        rw [preL_len]
        omega
      have Hids := Lib.hid (ids_take hltk ⟨ra, ri, rn⟩)
      obtain ⟨ys, hys⟩ : ∃ ys, (preF kids[k]).map GUnit.id = ys := ⟨_, rfl⟩
      have hyl : ys.length = cntF kids[k] := by rw [← hys, List.length_map, preF_len]
      obtain ⟨xs, hxs⟩ : ∃ xs, (⟨ra, ri, rn⟩ : GId) :: (preL (kids.take k)).map GUnit.id = xs := ⟨_, rfl⟩
      have hxl : xs.length = 1 + (preL (kids.take k)).length := by rw [← hxs, List.length_cons, List.length_map, Nat.add_comm]
      rw [hys] at Hr2 Hids
      rw [hxs] at Hids hown
      have hlen : xs.length + ys.length ≤ 1001 := by omega
      have hsz := hext.size
      clear hrec hq hys hxs hl1 hyl hxl
      go_wp2_with fail
      refine (Hr2.out).mono ?_
      rintro e w2 ⟨v2, rfl, hown2, hx2⟩
      obtain ⟨B, cb, rfl, hcb, hsb⟩ := hown2.form
      have hsz2 := hx2.size
      clear hown2
      go_wp2_with (at_builtin; refine wpList_app idEl rfl _ _ rfl cb rfl (hown.ext hx2) (ys := ys) rfl hsb (by omega) (by omega) ?_; intro v' w3 hown' hb1 hg1)
      have hext' : Ext wb w3 := (hext.trans hx2).trans' hb1
      go_wp2
      go_roundw
      case rel => exact ⟨k + 1, by omega, by go_num, by rw [Hids.out]; exact hown', hext'⟩
      case measure => simp [intOf]; omega
    · have d1 : decide ((k : Int) < (rs.length : Int)) = false := decide_eq_false (by omega)
      rw [List.take_of_length_le (by rw [← Hrl.out]; omega)] at hown
      go_wp2
      go_ret
      exact ⟨_, rfl, hown.mono he1.size, he1.trans hext⟩
theorem all6_any : ∀ N, all6At N
  | 0 => fun _ _ _ h => (size0 h).elim
  | N + 1 => all6_step N (all6_any N)
end Go.Proofs.YtjhdamjbljafhaaGreatDoor
namespace Go.Proofs.YtjhdamjbljafhaaGreatDoor
open Go.RowKit
theorem eqId0 (a b c a' b' c' : Int) (w : World) : (Op.equalIn 10000 23 (.agg #[.int .i64 a, .int .i64 b, .int .i64 c]) (.agg #[.int .i64 a', .int .i64 b', .int .i64 c'])).run Tryz.prog w = .ok (decide ((⟨a, b, c⟩ : GId) = ⟨a', b', c'⟩)) w := by
  have u3 := Tryz.underlying3
  have hS : Tryz.prog.underlying 23 = some (.struct (Tryz.prog.fieldsOf 23)) := by kernel_rfl
  rw [show (10000 : Nat) = 9999 + 1 from rfl, run_equalIn_agg w 9999 23 _ _ hS (by kernel_rfl)]
  simp only [Program.fieldsOf, Tryz.underlying23]
  go_simp
  by_cases h1 : a = a' <;> by_cases h2 : b = b' <;> by_cases h3 : c = c' <;> simp [h1, h2, h3]
theorem idEql (w : World) (a b c a' b' c' : Int) : (binOp .eql 23 (.agg #[.int .i64 a, .int .i64 b, .int .i64 c]) (.agg #[.int .i64 a', .int .i64 b', .int .i64 c'])).run Tryz.prog w = .ok (.bool (decide ((⟨a, b, c⟩ : GId) = ⟨a', b', c'⟩))) w := by
  have h := eqId0 a b c a' b' c' w
  simp only [binOp]
  simp only [Op.equal, Op.maxDepth, Sem.run_bind, h, Result.andThen_ok, Sem.run_pure]
theorem idNeq (w : World) (a b c a' b' c' : Int) : (binOp .neq 23 (.agg #[.int .i64 a, .int .i64 b, .int .i64 c]) (.agg #[.int .i64 a', .int .i64 b', .int .i64 c'])).run Tryz.prog w = .ok (.bool (!decide ((⟨a, b, c⟩ : GId) = ⟨a', b', c'⟩))) w := by
  have h := eqId0 a b c a' b' c' w
  simp only [binOp]
  simp only [Op.equal, Op.maxDepth, Sem.run_bind, h, Result.andThen_ok, Sem.run_pure]
theorem boolNeq (w : World) (a b : Bool) : (binOp .neq 4 (.bool a) (.bool b)).run Tryz.prog w = .ok (.bool (a != b)) w := by
  have u := Tryz.underlying4
  cases a <;> cases b <;> go_simp
def id0 : GId := ⟨0, 0, 0⟩
def idsOk (u : GUnit) : Prop := (∀ x ∈ preF u, x.id = id0) ∨ ((preF u).map GUnit.id).Nodup
theorem nodup_snoc {α : Type} {l : List α} {k : Nat} (hk : k < l.length) (h : (l.take k).Nodup) (h2 : ∀ x ∈ l.take k, x ≠ l[k]) : (l.take (k + 1)).Nodup := by
  rw [List.take_succ_eq_append_getElem hk, List.nodup_append]
  refine ⟨h, by simp, ?_⟩
  intro a ha b hb
  rw [List.mem_singleton.1 hb]
  exact h2 a ha
set_option maxRecDepth 100000 in
set_option maxHeartbeats 1600000 in
theorem ids6_any (u : GUnit) (r : RUnit) (w : World) (hr : Reads w u r) (hok : OkU u) : Calls Tryz.prog 30 #[.agg r.cells.toArray] w (RetIf (idsOk u) w) := by
  have Ha := Lib.hid (fun wq (he : Ext w wq) => all6_any _ u r wq (Nat.le_refl _) (Reads.ext he u r hr) hok)
  have hb := BoxU.new r w
  have he1 : Ext w (w.alloc (.cells r.cells.toArray 27)) := (Ext.refl w).alloc _
  have hlen : ((preF u).map GUnit.id).length ≤ 1000 := by rw [List.length_map, preF_len]; exact hok.cnt
  have hpos : 0 < ((preF u).map GUnit.id).length := by rw [preF_cons]; simp
  have Hfin := Lib.hid (show (∀ x ∈ (preF u).map GUnit.id, x = id0) → idsOk u from fun h => .inl fun x hx => h _ (List.mem_map.2 ⟨x, hx, rfl⟩))
  have Hfin2 := Lib.hid (show ((preF u).map GUnit.id).Nodup → idsOk u from fun h => .inr h)
  obtain ⟨ids, hids⟩ : ∃ ids, (preF u).map GUnit.id = ids := ⟨_, rfl⟩
  rw [hids] at Ha Hfin Hfin2 hlen hpos
  obtain ⟨P, hP⟩ : ∃ P, idsOk u = P := ⟨_, rfl⟩
  rw [hP] at Hfin Hfin2 ⊢
  obtain ⟨ra, ri, rn, rk, rl, hdA, hn, hc, wA, wn, wc, kA, kn, kc⟩ := r
  simp only [RUnit.cells] at hb he1 Ha ⊢
  obtain ⟨wb, hwb⟩ : ∃ wb, w.alloc (.cells #[.int .i64 ra, .int .i64 ri, .int .i64 rn, .int .i64 rk, .string rl, .slice hdA hn hc, .slice wA wn wc, .slice kA kn kc] 27) = wb := ⟨_, rfl⟩
  rw [hwb] at hb he1
  have Hwb := Lib.hid hwb
  have Hbx := Lib.hid hb
  have Ha2 := Lib.hid (Ha.out wb he1)
  clear hids hP hwb hb Ha hr hok
  go_enter Tryz.func30, Tryz.ntmps30
  go_wp2_with fail
  rw [Hwb.out]
  refine (Ha2.out).mono ?_
  rintro e w2 ⟨v, rfl, hown, hx2⟩
  obtain ⟨B, cb, rfl, hcb, hsb⟩ := hown.form
  clear hown Ha2
  go_wp2
  go_loopw [4, 5] (fun vn vi wr => ∃ (b : Bool) (k : Nat), k ≤ ids.length ∧ vn = .bool b ∧ vi = .int .i64 (k : Nat) ∧ Hid (b = true → ∀ x ∈ ids.take k, x = id0) ∧ Ext w2 wr) (fun _ vi _ => ids.length - (intOf vi).toNat)
  case atStart => exact ⟨true, 0, Nat.zero_le _, rfl, rfl, Lib.hid (by simp), Ext.refl _⟩
  case round =>
    obtain ⟨b, k, hk, rfl, rfl, Hk, hext⟩ := hrel
    by_cases hlt : k < ids.length
    · obtain ⟨b', off, rfl, hb', u0, u1, u2⟩ := idAt (hsb.ext hext) hlt
      have d1 : decide ((k : Int) < (ids.length : Int)) = true := decide_eq_true (by omega)
      have Hs := Lib.hid (fun h1 h2 => mem_take_succ (P := fun x => x = id0) hlt h1 h2)
      obtain ⟨x, hx⟩ : ∃ x, ids[k] = x := ⟨_, rfl⟩
      rw [hx] at u0 u1 u2 Hs
      obtain ⟨a, i, n⟩ := x
      dsimp only at u0 u1 u2
      clear hx
      cases b with
      | true =>
        go_wp2
        all_goals (try simp only [Exit.inBlock, Exit.then])
        all_goals refine ⟨⟨_, k + 1, by omega, rfl, by go_num, ?_, hext⟩, by simp [intOf]; omega⟩
        all_goals first | exact Lib.hid (fun h => absurd h (by decide)) | skip
        refine Lib.hid (fun _ => Hs.out (Hk.out rfl) ?_)
        simp only [id0, GId.mk.injEq]
        exact ⟨by assumption, by assumption, by assumption⟩
      | false =>
        go_wp2
        all_goals refine ⟨⟨_, k + 1, by omega, rfl, by go_num, ?_, hext⟩, by simp [intOf]; omega⟩
        all_goals exact Lib.hid (fun h => absurd h (by decide))
    · have d1 : decide ((k : Int) < (ids.length : Int)) = false := decide_eq_false (by omega)
      have hk2 := Hk.out
      rw [List.take_of_length_le (by omega)] at hk2
      cases b with
      | true =>
        have HK := Lib.hid (Hfin.out (hk2 rfl))
        clear hk2 Hk
        go_wp2
        go_ret
        exact ⟨true, rfl, fun _ => HK.out, he1.trans (hx2.trans hext)⟩
      | false =>
        clear hk2 Hk
        obtain ⟨b', off, rfl, hb', u0, u1, u2⟩ := idAt (hsb.ext hext) hpos
        have hbx := Hbx.out.ext (hx2.trans hext)
        have b3 := hbx.c3
        dsimp only at b3
        obtain ⟨x, hx⟩ : ∃ x, ids[0] = x := ⟨_, rfl⟩
        rw [hx] at u0 u1 u2
        obtain ⟨a, i, n⟩ := x
        dsimp only at u0 u1 u2
        clear hx hbx
        simp only [Nat.zero_mul, Nat.add_zero] at u0 u1 u2
        have hq := fun W => idEql W a i n 0 0 0
        obtain ⟨E, hE⟩ : ∃ E, decide ((⟨a, i, n⟩ : GId) = ⟨0, 0, 0⟩) = E := ⟨_, rfl⟩
        obtain ⟨F, hF⟩ : ∃ F, (rk == 0) = F := ⟨_, rfl⟩
        have hq2 := fun W => boolNeq W E F
        rw [hE] at hq
        clear hE
        go_wp2
        go_quiet (fail)
        have hx4 : Ext w2 (wr.drewN nq) := hext.drewN _
        obtain ⟨w4, hw4⟩ : ∃ w4, wr.drewN nq = w4 := ⟨_, rfl⟩
        obtain ⟨G, hG⟩ : ∃ G, (E != F) = G := ⟨_, rfl⟩
        rw [hw4] at hx4 ⊢
        rw [hG]
        clear hw4 hG hq hq2 hF u0 u1 u2 b3
        cases G with
        | true =>
          go_wp2
          go_ret
          exact ⟨false, rfl, by simp, he1.trans (hx2.trans hx4)⟩
        | false =>
          go_wp2
          go_loopw [6] (fun vk wr => ∃ k : Nat, k ≤ ids.length ∧ vk = .int .i64 (k : Nat) ∧ Hid ((ids.take k).Nodup) ∧ Ext w2 wr) (fun vk _ => ids.length - (intOf vk).toNat)
          case atStart => exact ⟨0, Nat.zero_le _, rfl, Lib.hid (by simp), hx4⟩
          case round =>
            clear hx4 hext hb'
            obtain ⟨k, hk, rfl, Hk, hext⟩ := hrel
            by_cases hlt : k < ids.length
            · have d1 : decide ((k : Int) < (ids.length : Int)) = true := decide_eq_true (by omega)
              obtain ⟨x, hx⟩ : ∃ x, ids[k] = x := ⟨_, rfl⟩
              have Hx := Lib.hid hx
              clear hx
              go_wp2
              go_loopw [7] (fun vj wr => ∃ j : Nat, j ≤ k ∧ vj = .int .i64 (j : Nat) ∧ Hid (∀ y ∈ ids.take j, y ≠ x) ∧ Ext w2 wr) (fun vj _ => k - (intOf vj).toNat)
              case atStart => exact ⟨0, Nat.zero_le _, rfl, Lib.hid (by simp), hext⟩
              case round =>
                clear hext
                obtain ⟨j, hj, rfl, Hj, hext⟩ := hrel
                by_cases hjk : j < k
                · have d2 : decide ((j : Int) < (k : Int)) = true := decide_eq_true (by omega)
                  have hjl : j < ids.length := by omega
                  obtain ⟨_, _, ha, hb1, u0, u1, u2⟩ := idAt (hsb.ext hext) hlt
                  cases ha
                  obtain ⟨_, _, ha, hb2, v0, v1, v2⟩ := idAt (hsb.ext hext) hjl
                  cases ha
                  rw [Hx.out] at u0 u1 u2
                  obtain ⟨y, hy⟩ : ∃ y, ids[j] = y := ⟨_, rfl⟩
                  have Hs := Lib.hid (fun h1 h2 => mem_take_succ (P := fun y => y ≠ x) hjl h1 h2)
                  rw [hy] at v0 v1 v2 Hs
                  have hq := fun W => idEql W y.a y.i y.n x.a x.i x.n
                  obtain ⟨E, hE⟩ : ∃ E, decide ((⟨y.a, y.i, y.n⟩ : GId) = ⟨x.a, x.i, x.n⟩) = E := ⟨_, rfl⟩
                  rw [hE] at hq
                  have HE := Lib.hid (show E = false → y ≠ x from fun h e => by
                    rw [← hE] at h
                    have := of_decide_eq_false h
                    exact this (by rw [e]))
                  clear hE hy
                  cases E with
                  | true =>
                    go_wp2
                    go_quiet (fail)
                    go_wp2
                    go_ret
                    exact ⟨false, rfl, by simp, he1.trans (hx2.trans (hext.drewN _))⟩
                  | false =>
                    have HS := Lib.hid (Hs.out Hj.out (HE.out rfl))
                    clear Hs Hj HE
                    go_wp2
                    go_quiet (fail)
                    go_wp2
                    go_roundw
                    case rel => exact ⟨j + 1, by omega, by go_num, HS, hext.drewN _⟩
                    case measure => simp [intOf]; omega
                · obtain rfl : j = k := by omega
                  have d2 : decide ((j : Int) < (j : Int)) = false := decide_eq_false (by omega)
                  have HN := Lib.hid (nodup_snoc hlt Hk.out (by rw [Hx.out]; exact Hj.out))
                  clear Hk Hj
                  go_wp2
                  go_roundw
                  case rel => exact ⟨j + 1, by omega, by go_num, HN, hext⟩
                  case measure => simp [intOf]; omega
            · have d1 : decide ((k : Int) < (ids.length : Int)) = false := decide_eq_false (by omega)
              have hk2 := Hk.out
              rw [List.take_of_length_le (by omega)] at hk2
              have HK := Lib.hid (Hfin2.out hk2)
              clear hk2 Hk
              go_wp2
              go_ret
              exact ⟨true, rfl, fun _ => HK.out, he1.trans (hx2.trans hext)⟩
end Go.Proofs.YtjhdamjbljafhaaGreatDoor
