/- A unit among the arguments, opened as a tree. size: the units of a tree, counted up to a maximum. short, words, Few on trees: whether a tree has few units and all its rows are short. -/
import Derived.Test.YtjhdamjbljafhaaGreatDoorP02
import Derived.Test.YtjhdamjbljafhaaGreatDoorP04
namespace Go.Proofs.YtjhdamjbljafhaaGreatDoor
open Go.ChangeShapes Go.WideShapes Go.ChangeAt Go.RowKit Go.Deep
section
variable {H : Type} {enc : TypeId × Value → H} {W : World}
theorem slice_cells {α : Type} (D : El Tryz.prog α) {n : Nat} {cs : List Value} {x : DataW H × List MemPlace} (h : DataW.trod enc Tryz.prog W 0 (fun _ => true) true n D.t cs = some x) : ∃ A l c, cs = [.slice A l c] := by
  rcases open_slice D.ht h with ⟨rfl, _⟩ | ⟨a, len, cap, _, _, _, _, rfl, _⟩
  · exact ⟨_, _, _, rfl⟩
  · exact ⟨_, _, _, rfl⟩
set_option maxRecDepth 100000 in
theorem rd_id (n : Nat) (cs : List Value) (x : DataW H × List MemPlace) (h : DataW.trod enc Tryz.prog W 0 (fun _ => true) true n 23 cs = some x) :
    ∃ a i k, cs = [.int .i64 a, .int .i64 i, .int .i64 k] := by
  obtain ⟨xs, m, rfl, rfl, hlen, hxl, hf⟩ := DataW.trod_struct Tryz.underlying23 h
  have hc : Tryz.prog.cellsOf 23 = 3 := by kernel_rfl
  have hi : Tryz.prog.cellsOf 3 = 1 := by kernel_rfl
  rw [hc] at hlen
  match cs, hlen with
  | [c0, c1, c2], _ =>
    match xs, hxl with
    | [x0, x1, x2], _ =>
      have f0 : DataW.trod enc Tryz.prog W 0 (fun _ => true) true m 3 (([c0, c1, c2].drop 0).take (Tryz.prog.cellsOf 3)) = some x0 := hf 0 _ rfl
      have f1 : DataW.trod enc Tryz.prog W 0 (fun _ => true) true m 3 (([c0, c1, c2].drop 1).take (Tryz.prog.cellsOf 3)) = some x1 := hf 1 _ rfl
      have f2 : DataW.trod enc Tryz.prog W 0 (fun _ => true) true m 3 (([c0, c1, c2].drop 2).take (Tryz.prog.cellsOf 3)) = some x2 := hf 2 _ rfl
      rw [hi] at f0 f1 f2
      obtain ⟨a, ha, rfl, wa⟩ := DataW.trod_int Tryz.underlying3 f0
      obtain ⟨i, hi', rfl, wi⟩ := DataW.trod_int Tryz.underlying3 f1
      obtain ⟨k, hk, rfl, wk⟩ := DataW.trod_int Tryz.underlying3 f2
      simp only [List.drop_zero, List.drop_succ_cons, List.take_succ_cons, List.take_zero, List.cons.injEq, and_true] at ha hi' hk
      subst ha; subst hi'; subst hk
      exact ⟨a, i, k, rfl⟩
def UnitParts (enc : TypeId × Value → H) (W : World) (r : RUnit) (d : DataW H) : Prop :=
  ∃ d0 d1 d2 dh dw dk, d = .agg [d0, d1, d2, dh, dw, dk] ∧ (∃ m p, DataW.trod enc Tryz.prog W 0 (fun _ => true) true m wordEl.t [.slice r.hA r.hn r.hc] = some (dh, p)) ∧ (∃ m p, DataW.trod enc Tryz.prog W 0 (fun _ => true) true m wordEl.t [.slice r.wA r.wn r.wc] = some (dw, p)) ∧
    (∃ m p, DataW.trod enc Tryz.prog W 0 (fun _ => true) true m unitEl.t [.slice r.kA r.kn r.kc] = some (dk, p))
set_option maxRecDepth 100000 in
theorem unit_parts (n : Nat) (cs : List Value) (d : DataW H) (pl : List MemPlace) (hcs : cs.length = 8) (h : DataW.trod enc Tryz.prog W 0 (fun _ => true) true n 27 cs = some (d, pl)) :
    ∃ r : RUnit, cs = r.cells ∧ UnitParts enc W r d := by
  obtain ⟨xs, m, rfl, hx, hlen, hxl, hf⟩ := DataW.trod_struct Tryz.underlying27 h
  have hI : Tryz.prog.cellsOf 23 = 3 := by kernel_rfl
  have hi : Tryz.prog.cellsOf 3 = 1 := by kernel_rfl
  have hs : Tryz.prog.cellsOf 9 = 1 := by kernel_rfl
  have hw : Tryz.prog.cellsOf 24 = 1 := by kernel_rfl
  have hu : Tryz.prog.cellsOf 25 = 1 := by kernel_rfl
  match cs, hcs with
  | [c0, c1, c2, c3, c4, c5, c6, c7], _ =>
    match xs, hxl with
    | [x0, x1, x2, x3, x4, x5], _ =>
      have f0 : DataW.trod enc Tryz.prog W 0 (fun _ => true) true m 23 (([c0, c1, c2, c3, c4, c5, c6, c7].drop 0).take (Tryz.prog.cellsOf 23)) = some x0 := hf 0 _ rfl
      have f1 : DataW.trod enc Tryz.prog W 0 (fun _ => true) true m 3 (([c0, c1, c2, c3, c4, c5, c6, c7].drop 3).take (Tryz.prog.cellsOf 3)) = some x1 := hf 1 _ rfl
      have f2 : DataW.trod enc Tryz.prog W 0 (fun _ => true) true m 9 (([c0, c1, c2, c3, c4, c5, c6, c7].drop 4).take (Tryz.prog.cellsOf 9)) = some x2 := hf 2 _ rfl
      have f3 : DataW.trod enc Tryz.prog W 0 (fun _ => true) true m wordEl.t (([c0, c1, c2, c3, c4, c5, c6, c7].drop 5).take (Tryz.prog.cellsOf 24)) = some x3 := hf 3 _ rfl
      have f4 : DataW.trod enc Tryz.prog W 0 (fun _ => true) true m wordEl.t (([c0, c1, c2, c3, c4, c5, c6, c7].drop 6).take (Tryz.prog.cellsOf 24)) = some x4 := hf 4 _ rfl
      have f5 : DataW.trod enc Tryz.prog W 0 (fun _ => true) true m unitEl.t (([c0, c1, c2, c3, c4, c5, c6, c7].drop 7).take (Tryz.prog.cellsOf 25)) = some x5 := hf 5 _ rfl
      rw [hI] at f0
      rw [hi] at f1
      rw [hs] at f2
      rw [hw] at f3 f4
      rw [hu] at f5
      simp only [List.drop_zero, List.drop_succ_cons, List.take_succ_cons, List.take_zero] at f0 f1 f2 f3 f4 f5
      obtain ⟨a, i, k, h0⟩ := rd_id _ _ _ f0
      obtain ⟨kd, h1, rfl, _⟩ := DataW.trod_int Tryz.underlying3 f1
      obtain ⟨lb, h2, rfl, _⟩ := DataW.trod_string Tryz.underlying9 f2
      obtain ⟨hA, hn, hc, h3⟩ := slice_cells wordEl f3
      obtain ⟨wA, wn, wc, h4⟩ := slice_cells wordEl f4
      obtain ⟨kA, kn, kc, h5⟩ := slice_cells unitEl f5
      simp only [List.cons.injEq, and_true] at h0 h1 h2 h3 h4 h5
      obtain ⟨rfl, rfl, rfl⟩ := h0
      subst h1 h2 h3 h4 h5
      simp only [Prod.mk.injEq, List.map_cons, List.map_nil] at hx
      obtain ⟨x3a, x3b⟩ := x3
      obtain ⟨x4a, x4b⟩ := x4
      obtain ⟨x5a, x5b⟩ := x5
      exact ⟨⟨a, i, k, kd, lb, hA, hn, hc, wA, wn, wc, kA, kn, kc⟩, rfl, _, _, _, _, _, _, hx.1, ⟨m, _, f3⟩, ⟨m, _, f4⟩, ⟨m, _, f5⟩⟩
theorem readsAll_of {p : GUnit → Prop} : ∀ (rs : List RUnit), (∀ (k : Nat) (r : RUnit), rs[k]? = some r → ∃ u, Reads W u r ∧ AllU p u) → ∃ us, ReadsAll W us rs ∧ AllUs p us
  | [], _ => ⟨[], by rw [ReadsAll]; trivial, by rw [AllUs]; trivial⟩
  | r :: rs, h => by
    obtain ⟨u, h1, h2⟩ := h 0 r rfl
    obtain ⟨us, h3, h4⟩ := readsAll_of rs fun k q hq => h (k + 1) q (by simpa using hq)
    exact ⟨u :: us, by rw [ReadsAll]; exact ⟨h1, h3⟩, by rw [AllUs]; exact ⟨h2, h4⟩⟩
theorem maxLen_le : maxLen ≤ 9223372036854775807 := by decide
theorem parts_tree : ∀ (N : Nat) (d : DataW H) (r : RUnit), SizeOf.sizeOf d ≤ N → UnitParts enc W r d → ∃ u, Reads W u r ∧ AllU (lensLe 9223372036854775807 9223372036854775807) u
  | 0, d, r, hN, h => by
    obtain ⟨_, _, _, _, _, _, rfl, _⟩ := h
    simp at hN
  | N + 1, d, r, hN, h => by
    obtain ⟨d0, d1, d2, dh, dw, dk, rfl, ⟨m1, p1, h1⟩, ⟨m2, p2, h2⟩, m3, p3, h3⟩ := h
    obtain ⟨A1, c1, l1, ds1, sp1, e1, hc1, hm1, hs1, -⟩ := open_sl wordEl RWord rd_word h1
    obtain ⟨A2, c2, l2, ds2, sp2, e2, hc2, hm2, hs2, -⟩ := open_sl wordEl RWord rd_word h2
    obtain ⟨A3, c3, l3, ds3, sp3, e3, hc3, hm3, hs3, hd3, hdl3, -, hR3⟩ := open_sl unitEl (UnitParts enc W) (fun n cs d pl hcs h => unit_parts n cs d pl hcs h) h3
    simp only [List.cons.injEq, and_true, Value.slice.injEq] at e1 e2 e3
    obtain ⟨us, hall, hau⟩ := readsAll_of (W := W) (p := lensLe 9223372036854775807 9223372036854775807) l3 fun k q hq => by
      have hk : k < ds3.length := by rw [hdl3]; exact (List.getElem?_eq_some_iff.1 hq).1
      have hdk := List.getElem?_eq_getElem hk
      refine parts_tree N ds3[k] q ?_ (hR3 k q _ hq hdk)
      rcases hd3 with ⟨_, _, h, _⟩ | h
      · subst h; simp at hk
      · subst h
        have a1 := List.sizeOf_lt_of_mem (List.getElem_mem hk)
        simp at hN
        omega
    have hlen := ReadsAll.length hall
    have hmx := maxLen_le
    refine ⟨.mk r.a r.i r.n r.kind r.label l1 l2 us, ?_, ?_⟩
    · rw [Reads]
      exact ⟨⟨rfl, rfl, rfl, rfl, rfl⟩, ⟨e1.2.1, by rw [e1.2.2]; exact hc1, by rw [e1.1]; exact hs1⟩, ⟨e2.2.1, by rw [e2.2.2]; exact hc2, by rw [e2.1]; exact hs2⟩, by rw [e3.2.1, hlen], by rw [e3.2.2, ← hlen]; exact hc3, l3, by rw [e3.1]; exact hs3, hall⟩
    · rw [AllU]
      exact ⟨⟨by omega, by omega, by omega⟩, hau⟩
set_option maxRecDepth 100000 in
theorem open_unit {base : Nat} {v : Value} {d : DataW H} {pl : List MemPlace} (hv : Value.okWide Tryz.prog W .any base 27 v) (h : ∃ n, DataW.trod enc Tryz.prog W 0 (fun _ => true) true n 27 v.cells.toList = some (d, pl)) :
    ∃ (r : RUnit) (u : GUnit), v = .agg r.cells.toArray ∧ Reads W u r ∧ AllU (lensLe 9223372036854775807 9223372036854775807) u := by
  obtain ⟨cs, rfl, hsz⟩ := okWide_struct Tryz.underlying27 hv
  have hc : Tryz.prog.cellsOf 27 = 8 := by kernel_rfl
  rw [hc] at hsz
  obtain ⟨n, hn⟩ := h
  obtain ⟨r, hr, hp⟩ := unit_parts n _ d pl (by simpa [Value.cells] using hsz) hn
  obtain ⟨u, h1, h2⟩ := parts_tree _ d r (Nat.le_refl _) hp
  refine ⟨r, u, ?_, h1, h2⟩
  rw [← hr]
  simp [Value.cells]
end
end Go.Proofs.YtjhdamjbljafhaaGreatDoor
namespace Go.Proofs.YtjhdamjbljafhaaGreatDoor
open Go.RowKit
mutual
def sizeF : GUnit → Int → Int → Int
  | .mk _ _ _ _ _ _ _ kids, deep, most => if 20 < deep then most + 1 else sizeL kids deep most 1
def sizeL : List GUnit → Int → Int → Int → Int
  | [], _, _, n => n
  | u :: us, deep, most, n => if n ≤ most then sizeL us deep most (n + sizeF u (deep + 1) (most - n)) else n
end
mutual
theorem sizeF_le : ∀ (u : GUnit) (deep most : Int), 0 ≤ most → 1 ≤ sizeF u deep most ∧ sizeF u deep most ≤ most + 1
  | .mk _ _ _ _ _ _ _ kids, deep, most, h => by
    rw [sizeF]
    split
    · omega
    · exact sizeL_le kids deep most 1 h (by omega) (by omega)
theorem sizeL_le : ∀ (us : List GUnit) (deep most n : Int), 0 ≤ most → 1 ≤ n → n ≤ most + 1 → 1 ≤ sizeL us deep most n ∧ sizeL us deep most n ≤ most + 1
  | [], deep, most, n, h, h1, h2 => by rw [sizeL]; omega
  | u :: us, deep, most, n, h, h1, h2 => by
    rw [sizeL]
    split
    · have := sizeF_le u (deep + 1) (most - n) (by omega)
      exact sizeL_le us deep most _ h (by omega) (by omega)
    · omega
end
set_option maxRecDepth 100000 in
set_option maxHeartbeats 1600000 in
theorem size_any : ∀ (N : Nat) (u : GUnit) (r : RUnit) (deep most : Int) (w : World), SizeOf.sizeOf u ≤ N → Reads w u r → 0 ≤ deep → deep ≤ 21 → 0 ≤ most → most ≤ 1000 →
    Calls Tryz.prog 25 #[.agg r.cells.toArray, .int .i64 deep, .int .i64 most] w fun e w' => e = .returned (.int .i64 (sizeF u deep most)) ∧ Ext w w'
  | 0, .mk _ _ _ _ _ _ _ _, _, _, _, _, h, _, _, _, _, _ => by simp at h
  | N + 1, .mk a i n kd lb hd wd kids, r, deep, most, w, hN, hr, hd0, hd1, hm0, hm1 => by
    rw [Reads] at hr
    obtain ⟨-, -, -, hkn, hkc, rs, hrs, hall⟩ := hr
    obtain ⟨ra, ri, rn, rk, rl, hA, hn, hc, wA, wn, wc, kA, kn, kc⟩ := r
    dsimp only at hkn hkc hrs hall
    simp only [RUnit.cells]
    subst hkn
    have hlen := ReadsAll.length hall
    have Hall := Lib.hid hall
    clear hall
    by_cases hdp : 20 < deep
    · have e1 : sizeF (.mk a i n kd lb hd wd kids) deep most = most + 1 := by rw [sizeF, if_pos hdp]
      rw [e1]
      have e2 : decide (deep > 20) = true := decide_eq_true hdp
      clear e1 hdp
      go_enter Tryz.func25, Tryz.ntmps25
      go_wp2
      go_ret
      exact ⟨rfl, (Ext.refl _).alloc _⟩
    · have e1 : sizeF (.mk a i n kd lb hd wd kids) deep most = sizeL kids deep most 1 := by rw [sizeF, if_neg hdp]
      rw [e1]
      obtain ⟨R, hR⟩ : ∃ R, sizeL kids deep most 1 = R := ⟨_, rfl⟩
      rw [hR]
      have HR := Lib.hid hR
      have e2 : decide (deep > 20) = false := decide_eq_false hdp
      clear e1 hR
      go_enter Tryz.func25, Tryz.ntmps25
      go_wp2
      have hbx : ∀ w', Ext (w.alloc (.cells #[.int .i64 ra, .int .i64 ri, .int .i64 rn, .int .i64 rk, .string rl, .slice hA hn hc, .slice wA wn wc, .slice kA kids.length kc] 27)) w' → w'.cell? ⟨w.heap.size, 7, none⟩ = some (.slice kA kids.length kc) := fun w' he => (boxUnit ⟨ra, ri, rn, rk, rl, hA, hn, hc, wA, wn, wc, kA, kids.length, kc⟩ he).2.2.2.2.2.2.2.2
      have Hbx := Lib.hid hbx
      have he1 : Ext w (w.alloc (.cells #[.int .i64 ra, .int .i64 ri, .int .i64 rn, .int .i64 rk, .string rl, .slice hA hn hc, .slice wA wn wc, .slice kA kids.length kc] 27)) := (Ext.refl w).alloc _
      clear hbx
      obtain ⟨wb, hwb⟩ : ∃ wb, w.alloc (.cells #[.int .i64 ra, .int .i64 ri, .int .i64 rn, .int .i64 rk, .string rl, .slice hA hn hc, .slice wA wn wc, .slice kA kids.length kc] 27) = wb := ⟨_, rfl⟩
      rw [hwb] at Hbx he1 ⊢
      clear hwb
      go_loopw [7, 8] (fun z i wr => ∃ (k : Nat) (n : Int), k ≤ kids.length ∧ i = .int .i64 k ∧ z = .int .i64 n ∧ (k : Int) + 1 ≤ n ∧ n ≤ most + 1 ∧ Hid (sizeL (kids.drop k) deep most n = R) ∧ Ext wb wr) (fun _ i _ => kids.length - (intOf i).toNat)
      case atStart => exact ⟨0, 1, Nat.zero_le _, rfl, rfl, by omega, by omega, HR, Ext.refl _⟩
      case round =>
        obtain ⟨k, n, hk, rfl, rfl, hn1, hn2, Hn, hext⟩ := hrel
        have hcell := Hbx.out _ hext
        by_cases hlt : k < kids.length
        · have hdk : kids.drop k = kids[k] :: kids.drop (k + 1) := List.drop_eq_getElem_cons hlt
          have h3 := Hn.out
          rw [hdk, sizeL] at h3
          have c1 : decide ((k : Int) < (kids.length : Int)) = true := decide_eq_true (by omega)
          by_cases hle : n ≤ most
          · rw [if_pos hle] at h3
            have H3 := Lib.hid h3
            have c2 : decide (n ≤ most) = true := decide_eq_true hle
            have hltr : k < rs.length := by omega
            obtain ⟨b, off, rfl, hb, u0, u1, u2, u3, u4, u5, u6, u7⟩ := unitAt ((hrs.ext he1).ext hext) hltr
            have hsub : SizeOf.sizeOf kids[k] ≤ N := by
              have a1 := List.sizeOf_lt_of_mem (List.getElem_mem hlt)
              simp at hN
              omega
            have hrd := Reads.ext (he1.trans hext) _ _ (ReadsAll.get Hall.out k hlt hltr)
            have hrec := size_any N kids[k] rs[k] (deep + 1) (most - n) wr hsub hrd (by omega) (by omega) (by omega) (by omega)
            have hbd := sizeF_le kids[k] (deep + 1) (most - n) (by omega)
            obtain ⟨q, hq⟩ : ∃ q, rs[k] = q := ⟨_, rfl⟩
            rw [hq] at u0 u1 u2 u3 u4 u5 u6 u7 hrec
            obtain ⟨z, hz⟩ : ∃ z, sizeF kids[k] (deep + 1) (most - n) = z := ⟨_, rfl⟩
            rw [hz] at hbd hrec
            have Hz := Lib.hid hz
            have Hrec := Lib.hid hrec
            clear h3 hle hdk hsub hrd hrec hq hz Hn
            go_wp2_with fail
            refine (Hrec.out).mono ?_
            rintro e w2 ⟨rfl, hext2⟩
            go_wp2
            go_roundw
            case rel => exact ⟨k + 1, n + z, by omega, by go_num, by go_num, by omega, by omega, Lib.hid (by rw [← H3.out, Hz.out]), hext.trans hext2⟩
            case measure => simp [intOf]; omega
          · rw [if_neg hle] at h3
            have H3 := Lib.hid h3
            have c2 : decide (n ≤ most) = false := decide_eq_false hle
            clear h3 hle hdk Hn
            go_wp2
            go_ret
            exact ⟨by rw [H3.out]; rfl, he1.trans hext⟩
        · have hkl : k = kids.length := by omega
          have h3 := Hn.out
          rw [List.drop_eq_nil_of_le (by omega), sizeL] at h3
          have H3 := Lib.hid h3
          have c1 : decide ((k : Int) < (kids.length : Int)) = false := decide_eq_false (by omega)
          clear h3 hkl Hn
          go_wp2
          go_ret
          exact ⟨by rw [H3.out]; rfl, he1.trans hext⟩
end Go.Proofs.YtjhdamjbljafhaaGreatDoor
namespace Go.Proofs.YtjhdamjbljafhaaGreatDoor
open Go.RowKit
def shortB (l : List GWord) : Bool := (l.all fun x => decide (x.t.size ≤ 100)) && decide (l.length ≤ 300)
theorem shortB_len {l : List GWord} (h : shortB l = true) : l.length ≤ 300 := by
  simp only [shortB, Bool.and_eq_true, decide_eq_true_eq] at h
  exact h.2
theorem shortB_size {l : List GWord} (h : shortB l = true) : ∀ x ∈ l, x.t.size ≤ 100 := by
  simp only [shortB, Bool.and_eq_true, List.all_eq_true, decide_eq_true_eq] at h
  exact h.1
set_option maxRecDepth 100000 in
set_option maxHeartbeats 400000 in
theorem short6_any (A : Option Addr) (c : Nat) (l : List GWord) (w : World) (hs : Sl wordEl w A l) (hn : l.length ≤ 9223372036854775807) :
    Calls Tryz.prog 46 #[.slice A l.length c] w fun e w' => e = .returned (.bool (shortB l)) ∧ w = w' := by
  go_enter Tryz.func46, Tryz.ntmps46
  go_wp2
  go_loop [3] (fun i => ∃ k : Nat, k ≤ l.length ∧ i = .int .i64 k ∧ Hid ((l.take k).all (fun s => decide (s.t.size ≤ 100)) = true)) (fun i => l.length - (intOf i).toNat)
  case atStart => exact ⟨0, Nat.zero_le _, rfl, rfl⟩
  case round =>
    obtain ⟨k, hk, rfl, Hall⟩ := hrel
    by_cases hlt : k < l.length
    · obtain ⟨b, off, rfl, hb, hc, _, _, _⟩ := wordAt hs hlt
      obtain ⟨s, hsk⟩ : ∃ s, l[k].t = s := ⟨_, rfl⟩
      rw [hsk] at hc
      have Hs := Lib.hid hsk
      clear hsk
      by_cases h1 : s.size ≤ 100
      · go_wp2
        go_round
        case rel => exact ⟨k + 1, by omega, by go_num, by unfold Hid; rw [all_take_succ _ _ _ hlt, Hall.out, Hs.out]; simpa using h1⟩
        case measure => simp [intOf]; omega
      · go_wp2
        go_ret
        refine ⟨ret_bool ?_, rfl⟩
        unfold shortB
        rw [all_false_of hlt (by rw [Hs.out]; simp; omega)]
        rfl
    · have hkl : k = l.length := by omega
      have ha := Hall.out
      rw [hkl, List.take_length] at ha
      have Ha := Lib.hid ha
      clear hkl ha
      go_wp2
      go_ret
      refine ⟨ret_bool ?_, rfl⟩
      unfold shortB
      rw [Ha.out, Bool.true_and]
      simp
      omega
mutual
def wordsF : GUnit → Bool
  | .mk _ _ _ _ lb hd wd kids => decide (lb.size ≤ 30) && shortB hd && shortB wd && wordsL kids
def wordsL : List GUnit → Bool
  | [] => true
  | u :: us => wordsF u && wordsL us
end
set_option maxRecDepth 100000 in
set_option maxHeartbeats 1600000 in
theorem words_any : ∀ (N : Nat) (u : GUnit) (r : RUnit) (w : World), SizeOf.sizeOf u ≤ N → Reads w u r → AllU (lensLe 9223372036854775807 9223372036854775807) u →
    Calls Tryz.prog 26 #[.agg r.cells.toArray] w fun e w' => e = .returned (.bool (wordsF u)) ∧ Ext w w'
  | 0, .mk _ _ _ _ _ _ _ _, _, _, h, _, _ => by simp at h
  | N + 1, .mk a i n kd lb hd wd kids, r, w, hN, hr, hA => by
    rw [Reads] at hr
    rw [AllU] at hA
    obtain ⟨⟨hl1, hl2, hl3⟩, hA⟩ := hA
    obtain ⟨⟨-, -, -, -, hlb⟩, ⟨hhn, hhc, hhs⟩, ⟨hwn, hwc, hws⟩, hkn, hkc, rs, hrs, hall⟩ := hr
    obtain ⟨ra, ri, rn, rk, rl, hdA, hn, hc, wA, wn, wc, kA, kn, kc⟩ := r
    dsimp only at hkn hkc hrs hall hlb hhn hhc hhs hwn hwc hws
    simp only [RUnit.cells]
    subst hkn hlb hhn hwn
    have hlen := ReadsAll.length hall
    have Hall := Lib.hid hall
    have HA := Lib.hid hA
    clear hall hA
    have he1 : Ext w (w.alloc (.cells #[.int .i64 ra, .int .i64 ri, .int .i64 rn, .int .i64 rk, .string rl, .slice hdA hd.length hc, .slice wA wd.length wc, .slice kA kids.length kc] 27)) := (Ext.refl w).alloc _
    have Hh := short6_any hdA hc hd _ (hhs.ext he1) hl1
    have Hw := short6_any wA wc wd _ (hws.ext he1) hl2
    by_cases h1 : rl.size ≤ 30
    case neg =>
      have e1 : wordsF (.mk a i n kd rl hd wd kids) = false := by rw [wordsF, decide_eq_false h1, Bool.false_and, Bool.false_and, Bool.false_and]
      rw [e1]
      have e2 : decide ((rl.size : Int) > 30) = true := decide_eq_true (by omega)
      clear e1 h1
      go_enter Tryz.func26, Tryz.ntmps26
      go_wp2
      go_ret
      exact ⟨rfl, he1⟩
    have e2 : decide ((rl.size : Int) > 30) = false := decide_eq_false (by omega)
    by_cases h2 : shortB hd = true
    case neg =>
      have h2 : shortB hd = false := by simpa using h2
      have e1 : wordsF (.mk a i n kd rl hd wd kids) = false := by rw [wordsF, h2, Bool.and_false, Bool.false_and, Bool.false_and]
      rw [e1]
      rw [h2] at Hh
      have HH := Lib.hid Hh
      clear e1 h1 h2 Hh Hw
      go_enter Tryz.func26, Tryz.ntmps26
      go_wp2_with (go_at_call 46; refine (HH.out).mono ?_; rintro e w' ⟨rfl, rfl⟩)
      go_ret
      exact ⟨rfl, he1⟩
    by_cases h3 : shortB wd = true
    case neg =>
      have h3 : shortB wd = false := by simpa using h3
      have e1 : wordsF (.mk a i n kd rl hd wd kids) = false := by rw [wordsF, h3, Bool.and_false, Bool.false_and]
      rw [e1]
      rw [h2] at Hh
      rw [h3] at Hw
      have HH := Lib.hid Hh
      have HW := Lib.hid Hw
      clear e1 h1 h2 h3 Hh Hw
      go_enter Tryz.func26, Tryz.ntmps26
      go_wp2_with fail
      refine (HH.out).mono ?_
      rintro e w' ⟨rfl, rfl⟩
      go_wp2_with fail
      refine (HW.out).mono ?_
      rintro e w' ⟨rfl, rfl⟩
      go_wp2
      go_ret
      exact ⟨rfl, he1⟩
    have e1 : wordsF (.mk a i n kd rl hd wd kids) = wordsL kids := by rw [wordsF, h2, h3, decide_eq_true h1]; simp
    rw [e1]
    obtain ⟨R, hR⟩ : ∃ R, wordsL kids = R := ⟨_, rfl⟩
    rw [hR]
    have HR := Lib.hid hR
    rw [h2] at Hh
    rw [h3] at Hw
    have HH := Lib.hid Hh
    have HW := Lib.hid Hw
    clear e1 hR h1 h2 h3 Hh Hw
    go_enter Tryz.func26, Tryz.ntmps26
    go_wp2_with fail
    refine (HH.out).mono ?_
    rintro e w' ⟨rfl, rfl⟩
    go_wp2_with fail
    refine (HW.out).mono ?_
    rintro e w' ⟨rfl, rfl⟩
    go_wp2
    have Hbx := Lib.hid (show ∀ w', Ext (w.alloc (.cells #[.int .i64 ra, .int .i64 ri, .int .i64 rn, .int .i64 rk, .string rl, .slice hdA hd.length hc, .slice wA wd.length wc, .slice kA kids.length kc] 27)) w' → w'.cell? ⟨w.heap.size, 7, none⟩ = some (.slice kA kids.length kc) from fun w' he => (boxUnit ⟨ra, ri, rn, rk, rl, hdA, hd.length, hc, wA, wd.length, wc, kA, kids.length, kc⟩ he).2.2.2.2.2.2.2.2)
    clear HH HW
    obtain ⟨wb, hwb⟩ : ∃ wb, w.alloc (.cells #[.int .i64 ra, .int .i64 ri, .int .i64 rn, .int .i64 rk, .string rl, .slice hdA hd.length hc, .slice wA wd.length wc, .slice kA kids.length kc] 27) = wb := ⟨_, rfl⟩
    rw [hwb] at Hbx he1 ⊢
    clear hwb
    go_loopw [3] (fun i wr => ∃ (k : Nat), k ≤ kids.length ∧ i = .int .i64 k ∧ Hid (wordsL (kids.drop k) = R) ∧ Ext wb wr) (fun i _ => kids.length - (intOf i).toNat)
    case atStart => exact ⟨0, Nat.zero_le _, rfl, HR, Ext.refl _⟩
    case round =>
      obtain ⟨k, hk, rfl, Hn, hext⟩ := hrel
      have hcell := Hbx.out _ hext
      by_cases hlt : k < kids.length
      · have hdk : kids.drop k = kids[k] :: kids.drop (k + 1) := List.drop_eq_getElem_cons hlt
        have h3 := Hn.out
        rw [hdk, wordsL] at h3
        have c1 : decide ((k : Int) < (kids.length : Int)) = true := decide_eq_true (by omega)
        have hltr : k < rs.length := by omega
        obtain ⟨b, off, rfl, hb, u0, u1, u2, u3, u4, u5, u6, u7⟩ := unitAt ((hrs.ext he1).ext hext) hltr
        have hsub : SizeOf.sizeOf kids[k] ≤ N := by
          have a1 := List.sizeOf_lt_of_mem (List.getElem_mem hlt)
          simp at hN
          omega
        have hrd := Reads.ext (he1.trans hext) _ _ (ReadsAll.get Hall.out k hlt hltr)
        have hrec := words_any N kids[k] rs[k] wr hsub hrd (HA.out.get k hlt)
        obtain ⟨q, hq⟩ : ∃ q, rs[k] = q := ⟨_, rfl⟩
        rw [hq] at u0 u1 u2 u3 u4 u5 u6 u7 hrec
        by_cases hz : wordsF kids[k] = true
        · rw [hz, Bool.true_and] at h3
          rw [hz] at hrec
          have H3 := Lib.hid h3
          have Hrec := Lib.hid hrec
          clear h3 hdk hsub hrd hrec hq hz Hn
          go_wp2_with fail
          refine (Hrec.out).mono ?_
          rintro e w2 ⟨rfl, hext2⟩
          go_wp2
          go_roundw
          case rel => exact ⟨k + 1, by omega, by go_num, H3, hext.trans hext2⟩
          case measure => simp [intOf]; omega
        · have hz : wordsF kids[k] = false := by simpa using hz
          rw [hz, Bool.false_and] at h3
          rw [hz] at hrec
          have H3 := Lib.hid h3
          have Hrec := Lib.hid hrec
          clear h3 hdk hsub hrd hrec hq hz Hn
          go_wp2_with fail
          refine (Hrec.out).mono ?_
          rintro e w2 ⟨rfl, hext2⟩
          go_wp2
          go_ret
          exact ⟨by rw [← H3.out]; rfl, he1.trans (hext.trans hext2)⟩
      · have hkl : k = kids.length := by omega
        have h3 := Hn.out
        rw [List.drop_eq_nil_of_le (by omega), wordsL] at h3
        have H3 := Lib.hid h3
        have c1 : decide ((k : Int) < (kids.length : Int)) = false := decide_eq_false (by omega)
        clear h3 hkl Hn
        go_wp2
        go_ret
        exact ⟨by rw [← H3.out]; rfl, he1.trans hext⟩
def fewF (u : GUnit) (most : Int) : Bool := decide (sizeF u 0 most ≤ most) && wordsF u
set_option maxRecDepth 100000 in
set_option maxHeartbeats 1600000 in
theorem few6_any (u : GUnit) (r : RUnit) (most : Int) (w : World) (hr : Reads w u r) (hA : AllU (lensLe 9223372036854775807 9223372036854775807) u) (h0 : 0 ≤ most) (h1 : most ≤ 1000) :
    Calls Tryz.prog 10 #[.agg r.cells.toArray, .int .i64 most] w fun e w' => e = .returned (.bool (fewF u most)) ∧ Ext w w' := by
  have Hs := Lib.hid (fun w' (he : Ext w w') => size_any _ u r 0 most w' (Nat.le_refl _) (Reads.ext he u r hr) (by omega) (by omega) h0 h1)
  have Hw := Lib.hid (fun w' (he : Ext w w') => words_any _ u r w' (Nat.le_refl _) (Reads.ext he u r hr) hA)
  have he1 : Ext w (w.alloc (.cells r.cells.toArray 27)) := (Ext.refl w).alloc _
  have hb := fun w' he => boxUnit (w' := w') r (w := w) he
  obtain ⟨ra, ri, rn, rk, rl, hdA, hn, hc, wA, wn, wc, kA, kn, kc⟩ := r
  simp only [RUnit.cells] at Hs Hw he1 hb ⊢
  have Hb := Lib.hid hb
  clear hb
  obtain ⟨z, hz⟩ : ∃ z, sizeF u 0 most = z := ⟨_, rfl⟩
  rw [hz] at Hs
  have Hz := Lib.hid hz
  clear hz hr hA
  by_cases hle : z ≤ most
  · have e1 : fewF u most = wordsF u := by rw [fewF, Hz.out, decide_eq_true hle, Bool.true_and]
    rw [e1]
    have e2 : decide (z ≤ most) = true := decide_eq_true hle
    clear e1 hle
    go_enter Tryz.func10, Tryz.ntmps10
    go_wp2_with fail
    refine (Hs.out _ he1).mono ?_
    rintro e w2 ⟨rfl, hext2⟩
    obtain ⟨-, u0, u1, u2, u3, u4, u5, u6, u7⟩ := Hb.out _ hext2
    go_wp2_with fail
    refine (Hw.out _ (he1.trans hext2)).mono ?_
    rintro e w3 ⟨rfl, hext3⟩
    go_wp2
    go_ret
    exact ⟨rfl, he1.trans (hext2.trans hext3)⟩
  · have e1 : fewF u most = false := by rw [fewF, Hz.out, decide_eq_false hle, Bool.false_and]
    rw [e1]
    have e2 : decide (z ≤ most) = false := decide_eq_false hle
    clear e1 hle
    go_enter Tryz.func10, Tryz.ntmps10
    go_wp2_with fail
    refine (Hs.out _ he1).mono ?_
    rintro e w2 ⟨rfl, hext2⟩
    go_wp2
    go_ret
    exact ⟨rfl, he1.trans hext2⟩
end Go.Proofs.YtjhdamjbljafhaaGreatDoor
