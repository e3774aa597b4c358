/- The reference's Notes: the walk. -/
import Derived.Test.YtiacmahfjcolaaaDoorRefCheck10
namespace Go.Proofs.YtiacmahfjcolaaaDoor
open Go.RowKit

/-- the called notes of the distinct labels -/
def pickG (ks : List (Int × ByteArray)) (ids : List GId) : List ByteArray → List GId
  | [] => []
  | s :: r => (if 0 ≤ noteI ks s then (ids[(noteI ks s).toNat]?).toList else []) ++ pickG ks ids r
theorem pickG_append (ks : List (Int × ByteArray)) (ids : List GId) (a b : List ByteArray) : pickG ks ids (a ++ b) = pickG ks ids a ++ pickG ks ids b := by
  induction a with
  | nil => rfl
  | cons s r ih => rw [List.cons_append, pickG, pickG, ih, List.append_assoc]
theorem onceF_pre : ∀ (l seen : List ByteArray), ∃ t, onceF seen l = seen ++ t
  | [], seen => ⟨[], by rw [onceF, List.append_nil]⟩
  | s :: r, seen => by
    rw [onceF]
    split
    · exact onceF_pre r seen
    · obtain ⟨t, ht⟩ := onceF_pre r (seen ++ [s])
      exact ⟨s :: t, by rw [ht]; simp⟩
/-- the same notes, seen from the list of all calls -/
theorem pick_once (ks : List (Int × ByteArray)) (ids : List GId) : ∀ (l A B : List ByteArray), (∀ s, s ∈ A ↔ s ∈ B) → pickG ks ids (onceF A l) = pickG ks ids A ++ notesG ks ids B l
  | [], A, B, _ => by rw [onceF, notesG, List.append_nil]
  | s :: r, A, B, h => by
    rw [onceF, notesG]
    by_cases hm : s ∈ A
    · rw [if_pos hm, if_neg (fun h2 => h2.1 ((h s).1 hm)), List.nil_append]
      exact pick_once ks ids r A (B ++ [s]) fun t => by
        rw [h t]
        simp only [List.mem_append, List.mem_singleton]
        constructor
        · exact .inl
        · rintro (h1 | rfl)
          · exact h1
          · exact (h _).1 hm
    · rw [if_neg hm, pick_once ks ids r (A ++ [s]) (B ++ [s]) (fun t => by simp [h t]), pickG_append, List.append_assoc]
      congr 1
      congr 1
      rw [pickG, pickG, List.append_nil]
      have hB : s ∉ B := fun h2 => hm ((h s).2 h2)
      by_cases h0 : 0 ≤ noteI ks s
      · rw [if_pos h0, if_pos ⟨hB, h0⟩]
      · rw [if_neg h0, if_neg (fun h2 => h0 h2.2)]
theorem notesOwn_once (u : GUnit) : notesOwn u = pickG u.keys (u.kids.map GUnit.id) (onceF [] u.anchs) := by
  rw [pick_once _ _ _ [] [] (fun _ => Iff.rfl), pickG, List.nil_append]
  rfl
theorem onceF_len : ∀ (l seen : List ByteArray), (onceF seen l).length ≤ seen.length + l.length
  | [], seen => by rw [onceF]; simp
  | s :: r, seen => by
    rw [onceF]
    split
    · have := onceF_len r seen; rw [List.length_cons]; omega
    · have := onceF_len r (seen ++ [s]); rw [List.length_append, List.length_singleton] at this; rw [List.length_cons]; omega
theorem notesF_len {u : GUnit} (h : OkT u) : (notesF u).length ≤ 1310000 := by
  rw [notesF_pre]
  have := flatMap_len (F := notesOwn) (m := 1310) (l := preF u) fun x hx => notesOwn_len (AllU.pre u h.sh x hx)
  have := h.few
  omega
theorem notesL_drop {l : List GUnit} {k : Nat} (h : k < l.length) : notesL (l.drop k) = notesF l[k] ++ notesL (l.drop (k + 1)) := by
  rw [List.drop_eq_getElem_cons h, notesL]
theorem pickG_drop {ks : List (Int × ByteArray)} {ids : List GId} {l : List ByteArray} {k : Nat} (h : k < l.length) : pickG ks ids (l.drop k) = (if 0 ≤ noteI ks l[k] then (ids[(noteI ks l[k]).toNat]?).toList else []) ++ pickG ks ids (l.drop (k + 1)) := by
  rw [List.drop_eq_getElem_cons h, pickG]

theorem strNeId : strEl.e ≠ idEl.e := by decide
def RefNotesAt (N : Nat) : Prop := ∀ (u : GUnit) (r : RUnit) (w : World), SizeOf.sizeOf u ≤ N → Reads w u r → OkT u → Calls Tryd.prog 23 #[.agg r.cells.toArray] w (RetOwn idEl w (notesF u))
set_option maxRecDepth 100000 in
set_option maxHeartbeats 6400000 in
theorem refNotes_step (N : Nat) (ih : RefNotesAt N) : RefNotesAt (N + 1) := by
  intro u r w hN hr hok
  have hru := hr
  have hshu := hok.short
  have hRlen := notesF_len hok
  have hkok := fun k h => hok.kid k h
  have hntu := fun s w' (he : Ext w w') => note_any u r s w' (Reads.ext he _ _ hru) (by have := hshu.2.2.1; omega)
  have hanc := fun w' (he : Ext w w') => refAnchors_any u r w' (Reads.ext he _ _ hru) hshu.1 (by have := hshu.2.1; omega)
  have hal2 := anchL_len u.words
  rw [show anchL u.words = u.anchs from rfl] at hal2
  have hol := onceF_len u.anchs []
  have hno := notesOwn_once u
  obtain ⟨a, i, n, kd, lb, hd, wd, kids⟩ := u
  rw [Reads] at hr
  obtain ⟨⟨hra, hri, hrn, -, -⟩, -, ⟨hwn, hwc, hws⟩, hkn, hkc, rs, hrs, hall⟩ := hr
  have hrl := ReadsAll.length hall
  have hbx := fun w' he => boxUnit (w' := w') r (w := w) he
  have hbt := fun w' he => boxT (w' := w') r (w := w) he
  obtain ⟨ra, ri, rn, rk, rl, hdA, hn, hc, wA, wn, wc, kA, kn, kc⟩ := r
  dsimp only at hra hri hrn hwn hwc hws hkn hkc hrs hall
  obtain ⟨hsh, hlw, hlk, hlab⟩ := hshu
  simp only [GUnit.words, GUnit.kids] at hsh hlw hlk hlab hkok hal2
  subst hra hri hrn hwn
  rw [← hrl] at hkn hlk
  subst hkn
  have hkeys : (GUnit.mk ra ri rn kd lb hd wd kids).keys = kids.map keyU := rfl
  have hkids : (GUnit.mk ra ri rn kd lb hd wd kids).kids = kids := rfl
  rw [hkeys] at hntu hno
  rw [hkids] at hno
  have hkl : (kids.map keyU).length = rs.length := by simp [hrl]
  have hat := fun s => @noteI_at (kids.map keyU) s
  rw [hkl] at hat
  have hid : ∀ j : Nat, ∀ h : j < rs.length, (kids.map GUnit.id)[j]? = some ⟨rs[j].a, rs[j].i, rs[j].n⟩ := fun j h => by
    have hj : j < kids.length := by omega
    rw [List.getElem?_map, List.getElem?_eq_getElem hj, Option.map_some, Reads.id (ReadsAll.get hall j hj h)]
  obtain ⟨ks, hksd⟩ : ∃ ks, kids.map keyU = ks := ⟨_, rfl⟩
  obtain ⟨ids, hids⟩ : ∃ ids, kids.map GUnit.id = ids := ⟨_, rfl⟩
  obtain ⟨AN, hAN⟩ : ∃ AN, (GUnit.mk ra ri rn kd lb hd wd kids).anchs = AN := ⟨_, rfl⟩
  rw [hAN] at hanc hal2 hol hno
  rw [hksd] at hntu hno hat
  rw [hids] at hno hid
  obtain ⟨ON, hON⟩ : ∃ ON, onceF [] AN = ON := ⟨_, rfl⟩
  rw [hON] at hol hno
  rw [List.length_nil, Nat.zero_add] at hol
  have hONl : ON.length ≤ 310 := by omega
  clear hol
  obtain ⟨R, hR⟩ : ∃ R, notesF (.mk ra ri rn kd lb hd wd kids) = R := ⟨_, rfl⟩
  rw [hR] at hRlen ⊢
  have HR : Hid (R = [] ++ pickG ks ids (ON.drop 0) ++ notesL kids) := Lib.hid (by rw [← hR, notesF, hno]; rfl)
  simp only [RUnit.cells] at hntu hbx hbt hanc ⊢
  have Hnt := Lib.hid hntu
  have Hanc := Lib.hid hanc
  have HON := Lib.hid hON
  have Hat := Lib.hid hat
  have HidG := Lib.hid hid
  have Hall := Lib.hid hall
  have Hl : Hid (kids.length = rs.length) := Lib.hid hrl.symm
  have Hkok := Lib.hid hkok
  have Hih := Lib.hid ih
  have Hsub := Lib.hid (show ∀ k, ∀ h : k < kids.length, SizeOf.sizeOf kids[k] ≤ N from fun k h => by
    have a1 := List.sizeOf_lt_of_mem (List.getElem_mem h)
    simp at hN
    omega)
  have he1 : Ext w (w.alloc (.cells #[.int .i64 ra, .int .i64 ri, .int .i64 rn, .int .i64 rk, .string rl, .slice hdA hn hc, .slice wA wd.length wc, .slice kA rs.length kc] 27)) := (Ext.refl w).alloc _
  have Hbx := Lib.hid (fun w' he => (hbx w' he).2)
  have Hbt := Lib.hid hbt
  have Hmade : Hid (∀ v, v = Value.slice (some ⟨w.heap.size + 1, 0, none⟩) 0 0 → ∀ wb : World, wb.heap.size = w.heap.size + 1 → Own idEl wb.heap.size (wb.alloc (.cells #[] 23)) v []) := Lib.hid fun v hv wb hz => by
    rw [hv, ← hz]
    exact Own.made idEl (Nat.le_refl _)
  clear hntu hanc hbx hbt hru hkeys hkids hksd hids hAN hON hno hat hid hkl hR hsh hlab hall hrl hwc hkc hkok ih hN hok
  go_enter Tryd.func23, Tryd.ntmps23
  obtain ⟨wb, hwb⟩ : ∃ wb, w.alloc (.cells #[.int .i64 ra, .int .i64 ri, .int .i64 rn, .int .i64 rk, .string rl, .slice hdA hn hc, .slice wA wd.length wc, .slice kA rs.length kc] 27) = wb := ⟨_, rfl⟩
  have hwz : wb.heap.size = w.heap.size + 1 := by rw [← hwb]; simp
  rw [hwb] at Hbx Hbt he1
  have Hwb := Lib.hid hwb
  have Hwz := Lib.hid hwz
  have Hown0 := Lib.hid (Hmade.out _ rfl wb hwz)
  have hx1 : Ext wb (wb.alloc (.cells #[] 23)) := (Ext.refl _).alloc _
  have Hx1 := Lib.hid hx1
  clear hwb hwz hx1 Hmade
  go_wp2_with fail
  rw [Hwb.out]
  refine (Hanc.out _ (he1.trans Hx1.out)).mono ?_
  rintro e w2 ⟨v2, rfl, ho2, hx2⟩
  obtain ⟨A2, c2, rfl, hc2, hs2⟩ := ho2.form
  have hon := once_any A2 c2 AN w2 hs2 (by omega)
  rw [HON.out] at hon
  have Hon := Lib.hid hon
  clear ho2 hon
  go_wp2_with fail
  refine (Hon.out).mono ?_
  rintro e w3 ⟨v3, rfl, ho3, hx3⟩
  obtain ⟨A3, c3, rfl, hc3, hs3⟩ := ho3.form
  have hx03 := (Hx1.out.trans hx2).trans hx3
  have hown0 := Hown0.out.ext (hx2.trans hx3)
  have hos3 := ho3.mono (show wb.heap.size ≤ w2.heap.size from (Hx1.out.trans hx2).size)
  clear ho3 hs2 hc2 hs3
  obtain ⟨z0, z1, z2, z3, z4, z5, z6, z7⟩ := Hbx.out _ hx03
  go_wp2
  go_loopw [3, 5] (fun vo vk wr => ∃ (k : Nat) (acc : List GId), k ≤ ON.length ∧ vk = .int .i64 (k : Nat) ∧ Hid (R = acc ++ pickG ks ids (ON.drop k) ++ notesL kids) ∧ Own idEl wb.heap.size wr vo acc ∧ Own strEl wb.heap.size wr (.slice A3 ON.length c3) ON ∧ Ext wb wr) (fun _ vk _ => ON.length - (intOf vk).toNat)
  case atStart => exact ⟨0, [], Nat.zero_le _, rfl, HR, hown0, hos3, hx03⟩
  case round =>
    obtain ⟨k, acc, hk, rfl, Hk, hown, hos, hext⟩ := hrel
    have HsO := Lib.hid (show Sl strEl wr A3 ON by
      obtain ⟨A', c', hv, -, h⟩ := hos.form
      cases hv
      exact h)
    have hac : acc.length ≤ 1310000 := by
      have := congrArg List.length Hk.out
      rw [List.length_append, List.length_append] at this
      omega
    clear z0 z1 z2 z3 z4 z5 z6 z7
    have hszr := hext.size
    by_cases hlt : k < ON.length
    · have hk2 := Hk.out
      rw [pickG_drop hlt] at hk2
      obtain ⟨s, hs⟩ : ∃ s, ON[k] = s := ⟨_, rfl⟩
      have Hsk := Lib.hid (show ON[k]? = some s by rw [List.getElem?_eq_getElem hlt, hs])
      rw [hs] at hk2
      have hnt2 := fun w' he => Hnt.out s w' he
      have hats := Hat.out s
      obtain ⟨Nn, hNn⟩ : ∃ Nn, noteI ks s = Nn := ⟨_, rfl⟩
      rw [hNn] at hnt2 hk2 hats
      have d1 : decide ((k : Int) < (ON.length : Int)) = true := decide_eq_true (by omega)
      clear hs hNn Hk
      by_cases h0 : 0 ≤ Nn
      · obtain ⟨j, rfl, hjl⟩ := hats h0
        have hidj := HidG.out j hjl
        have d2 : decide ((j : Int) ≥ 0) = true := decide_eq_true (by omega)
        have d3 : ((j : Int) < (rs.length : Int)) := by omega
        have Hnt2 := Lib.hid hnt2
        obtain ⟨q, hq⟩ : ∃ q, rs[j] = q := ⟨_, rfl⟩
        rw [hq] at hidj
        have Hqq := Lib.hid hq
        have HK2 := Lib.hid (show R = (acc ++ [⟨q.a, q.i, q.n⟩]) ++ pickG ks ids (ON.drop (k + 1)) ++ notesL kids by rw [hk2, if_pos (by omega), Int.toNat_natCast, hidj]; simp)
        clear hats hidj hq hk2 hnt2
        go_wp2
        refine wp_drawn (by kernel_rfl) (fun i => match i with | 0 => Ty.is (.agg #[.int .i64 ra, .int .i64 ri, .int .i64 rn, .int .i64 rk, .string rl, .slice hdA hn hc, .slice wA wd.length wc, .slice kA rs.length kc]) | 1 => Ty.is (.slice A3 ON.length c3) | 2 => Ty.is (.int .i64 (k : Nat)) | 3 => TCells [.string s] | 4 => Ty.is (.string s) | 5 => Ty.is (.int .i64 (j : Nat)) | 6 => Ty.is (.int .i64 (j : Nat)) | _ => Ty.any) (by kernel_rfl) rfl ?_
        intro v
        refine ⟨?_, ?_, ?_, ?_, ?_, ?_, ?_, ?_⟩
        · intro wq hq hd
          refine ob_plain rfl ?_
          exact yld_loadAgg 27 (.tmp 1) rfl Tryd.isAgg27 8 Tryd.sizeOf27 [.int .i64 ra, .int .i64 ri, .int .i64 rn, .int .i64 rk, .string rl, .slice hdA hn hc, .slice wA wd.length wc, .slice kA rs.length kc] rfl (Hbt.out _ (hext.trans hq)) rfl
        · intro wq hq hd
          refine ob_plain rfl ?_
          exact yld_move (.tmp 4) rfl rfl rfl
        · intro wq hq hd
          refine ob_plain rfl ?_
          exact yld_move (.tmp 5) rfl rfl rfl
        · intro wq hq hd
          obtain ⟨h0, h1, -⟩ := hd
          change v 1 = _ at h0
          change v 2 = _ at h1
          refine ob_plain rfl ?_
          exact yld_indexAt strEl (.tmp 19) (.tmp 20) rfl A3 ON c3 h0 k h1 (HsO.out.ext hq) s Hsk.out
        · intro wq hq hd
          obtain ⟨h0, -⟩ := hd
          change (TCells [.string s]).p (v 3) wq at h0
          refine ob_plain rfl ?_
          exact yld_loadOne 9 (.tmp 21) rfl Tryd.isAgg9 (c := .string s) h0 rfl
        · intro wq hq hd
          obtain ⟨h0, h1, -⟩ := hd
          change v 0 = _ at h0
          change v 4 = _ at h1
          refine ob_plain rfl ?_
          refine yld_call 39 Tryd.call39 _ _ rfl rfl [_, _] ⟨h0, h1, trivial⟩ ?_
          refine (Hnt2.out _ (he1.trans (hext.trans hq))).mono ?_
          rintro e w' ⟨rfl, hx'⟩
          exact ⟨_, rfl, hx', rfl⟩
        · intro wq hq hd
          obtain ⟨h0, h1, h2, h3, h4, h5, h6, h7, -⟩ := hd
          change v 5 = _ at h0
          refine ob_plain rfl ?_
          exact yld_assign (.tmp 23) rfl h0 rfl
        · intro wq hq hT
          have k6 := hT 6 (by decide)
          change v 6 = _ at k6
          clear hT
          simp only [List.drop_succ_cons, List.drop_zero, putE, setsE, List.set_cons_succ, List.set_cons_zero, Nat.reduceAdd]
          rw [k6]
          obtain ⟨z0, z1, z2, z3, z4, z5, z6, z7⟩ := Hbx.out _ (hext.trans hq)
          obtain ⟨b, off, rfl, hb, u0, u1, u2, u3, u4, u5, u6, u7⟩ := unitAt (hrs.ext (he1.trans (hext.trans hq))) hjl
          rw [Hqq.out] at u0 u1 u2 u3 u4 u5 u6 u7
          have hszq := hq.size
          go_wp2_with (at_builtin; refine wpList_app idEl rfl _ _ rfl 1 rfl (hown.ext (Ext.alloc hq _)) (ys := [⟨q.a, q.i, q.n⟩]) rfl (Sl.new idEl rfl) (by simp; omega) (by simp; omega) ?_; intro v4 w4 hown4 hb4 hg4)
          go_roundw
          case rel => exact ⟨k + 1, acc ++ [⟨q.a, q.i, q.n⟩], by omega, by go_num, HK2, hown4, (hos.ext (Ext.alloc hq _)).keep2 (hown.ext (Ext.alloc hq _)) strNeId hg4, (hext.trans (Ext.alloc hq _)).trans' hb4⟩
          case measure => simp [intOf]; omega
      · have d2 : decide (Nn ≥ 0) = false := decide_eq_false (by omega)
        have Hnt2 := Lib.hid hnt2
        have HK2 := Lib.hid (show R = acc ++ pickG ks ids (ON.drop (k + 1)) ++ notesL kids by rw [hk2, if_neg h0]; simp)
        clear hats hk2 hnt2 h0
        go_wp2
        refine wp_drawn (by kernel_rfl) (fun i => match i with | 0 => Ty.is (.agg #[.int .i64 ra, .int .i64 ri, .int .i64 rn, .int .i64 rk, .string rl, .slice hdA hn hc, .slice wA wd.length wc, .slice kA rs.length kc]) | 1 => Ty.is (.slice A3 ON.length c3) | 2 => Ty.is (.int .i64 (k : Nat)) | 3 => TCells [.string s] | 4 => Ty.is (.string s) | 5 => Ty.is (.int .i64 Nn) | 6 => Ty.is (.int .i64 Nn) | _ => Ty.any) (by kernel_rfl) rfl ?_
        intro v
        refine ⟨?_, ?_, ?_, ?_, ?_, ?_, ?_, ?_⟩
        · intro wq hq hd
          refine ob_plain rfl ?_
          exact yld_loadAgg 27 (.tmp 1) rfl Tryd.isAgg27 8 Tryd.sizeOf27 [.int .i64 ra, .int .i64 ri, .int .i64 rn, .int .i64 rk, .string rl, .slice hdA hn hc, .slice wA wd.length wc, .slice kA rs.length kc] rfl (Hbt.out _ (hext.trans hq)) rfl
        · intro wq hq hd
          refine ob_plain rfl ?_
          exact yld_move (.tmp 4) rfl rfl rfl
        · intro wq hq hd
          refine ob_plain rfl ?_
          exact yld_move (.tmp 5) rfl rfl rfl
        · intro wq hq hd
          obtain ⟨h0, h1, -⟩ := hd
          change v 1 = _ at h0
          change v 2 = _ at h1
          refine ob_plain rfl ?_
          exact yld_indexAt strEl (.tmp 19) (.tmp 20) rfl A3 ON c3 h0 k h1 (HsO.out.ext hq) s Hsk.out
        · intro wq hq hd
          obtain ⟨h0, -⟩ := hd
          change (TCells [.string s]).p (v 3) wq at h0
          refine ob_plain rfl ?_
          exact yld_loadOne 9 (.tmp 21) rfl Tryd.isAgg9 (c := .string s) h0 rfl
        · intro wq hq hd
          obtain ⟨h0, h1, -⟩ := hd
          change v 0 = _ at h0
          change v 4 = _ at h1
          refine ob_plain rfl ?_
          refine yld_call 39 Tryd.call39 _ _ rfl rfl [_, _] ⟨h0, h1, trivial⟩ ?_
          refine (Hnt2.out _ (he1.trans (hext.trans hq))).mono ?_
          rintro e w' ⟨rfl, hx'⟩
          exact ⟨_, rfl, hx', rfl⟩
        · intro wq hq hd
          obtain ⟨h0, h1, h2, h3, h4, h5, h6, h7, -⟩ := hd
          change v 5 = _ at h0
          refine ob_plain rfl ?_
          exact yld_assign (.tmp 23) rfl h0 rfl
        · intro wq hq hT
          have k6 := hT 6 (by decide)
          change v 6 = _ at k6
          clear hT
          simp only [List.drop_succ_cons, List.drop_zero, putE, setsE, List.set_cons_succ, List.set_cons_zero, Nat.reduceAdd]
          rw [k6]
          go_wp2
          go_roundw
          case rel => exact ⟨k + 1, acc, by omega, by go_num, HK2, hown.ext hq, hos.ext hq, hext.trans hq⟩
          case measure => simp [intOf]; omega
    · have hf := Hk.out
      rw [List.drop_of_length_le (by omega), pickG, List.append_nil] at hf
      have Hf2 : Hid (R = acc ++ notesL (kids.drop 0)) := Lib.hid hf
      have d1 : decide ((k : Int) < (ON.length : Int)) = false := decide_eq_false (by omega)
      clear hf Hk
      obtain ⟨z0, z1, z2, z3, z4, z5, z6, z7⟩ := Hbx.out _ hext
      go_wp2
      go_loopw [3, 7] (fun vo vk wr => ∃ (k : Nat) (acc : List GId), k ≤ rs.length ∧ vk = .int .i64 (k : Nat) ∧ Hid (R = acc ++ notesL (kids.drop k)) ∧ Own idEl wb.heap.size wr vo acc ∧ Ext wb wr) (fun _ vk _ => rs.length - (intOf vk).toNat)
      case atStart => exact ⟨0, acc, Nat.zero_le _, rfl, Hf2, hown, hext⟩
      case round =>
        clear hown hos hext HsO Hf2 z0 z1 z2 z3 z4 z5 z6 z7 hszr hac
        obtain ⟨k, acc, hk, rfl, Hf, hof, hext⟩ := hrel
        obtain ⟨z0, z1, z2, z3, z4, z5, z6, z7⟩ := Hbx.out _ hext
        have hszr := hext.size
        by_cases hlt : k < rs.length
        · have hltk : k < kids.length := by rw [Hl.out]; exact hlt
          have hf := Hf.out
          rw [notesL_drop hltk] at hf
          have hac : acc.length + (notesF kids[k]).length ≤ 1310000 := by
            have := congrArg List.length hf
            rw [List.length_append, List.length_append] at this
            omega
          obtain ⟨b, off, rfl, hb, u0, u1, u2, u3, u4, u5, u6, u7⟩ := unitAt (hrs.ext (he1.trans hext)) hlt
          have hrec := Hih.out kids[k] rs[k] wr (Hsub.out k hltk) (Reads.ext (he1.trans hext) _ _ (ReadsAll.get Hall.out k hltk hlt)) (Hkok.out k hltk)
          obtain ⟨q, hq⟩ : ∃ q, rs[k] = q := ⟨_, rfl⟩
          rw [hq] at u0 u1 u2 u3 u4 u5 u6 u7 hrec
          simp only [RUnit.cells] at hrec
          obtain ⟨C, hC⟩ : ∃ C, notesF kids[k] = C := ⟨_, rfl⟩
          rw [hC] at hf hac hrec
          have Hrec := Lib.hid hrec
          have HF := Lib.hid (show R = (acc ++ C) ++ notesL (kids.drop (k + 1)) by rw [hf, List.append_assoc])
          have d1 : decide ((k : Int) < (rs.length : Int)) = true := decide_eq_true (by omega)
          clear hf hC hrec hq Hf
          go_wp2_with fail
          refine (Hrec.out).mono ?_
          rintro e w2 ⟨v2, rfl, ho2, hx2⟩
          obtain ⟨A2, c2, rfl, hc2, hs2⟩ := ho2.form
          have hsz2 := hx2.size
          clear ho2
          go_wp2_with (at_builtin; refine wpList_app idEl rfl (.tmp 42) (.tmp 48) rfl c2 rfl (hof.ext hx2) rfl hs2 (by omega) (by omega) ?_; intro v4 w4 hown4 hb4 hg4)
          go_roundw
          case rel => exact ⟨k + 1, acc ++ C, by omega, by go_num, HF, hown4, (hext.trans hx2).trans' hb4⟩
          case measure => simp [intOf]; omega
        · have hkr : k = rs.length := by omega
          have hf := Hf.out
          rw [List.drop_of_length_le (by rw [Hl.out]; omega), notesL, List.append_nil] at hf
          have Hf2 := Lib.hid hf
          have d1 : decide ((k : Int) < (rs.length : Int)) = false := decide_eq_false (by omega)
          clear hf hkr
          go_wp2
          go_ret
          exact ⟨_, rfl, by rw [Hf2.out]; exact hof.mono he1.size, he1.trans hext⟩
theorem refNotes_all : ∀ N, RefNotesAt N
  | 0 => fun u _ _ h => by cases u; simp at h
  | N + 1 => refNotes_step N (refNotes_all N)
theorem refNotes_any (u : GUnit) (r : RUnit) (w : World) (hr : Reads w u r) (hok : OkT u) : Calls Tryd.prog 23 #[.agg r.cells.toArray] w (RetOwn idEl w (notesF u)) := refNotes_all _ u r w (Nat.le_refl _) hr hok

end Go.Proofs.YtiacmahfjcolaaaDoor
