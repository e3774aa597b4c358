/- paginate.called: the place of the word that calls a footnote. The printed lines of a valid unit. The comparing function of a sort, as what its calls answer. -/
import Derived.Test.YtjhdamjbljafhaaGreatDoorP32
import Derived.Test.YtjhdamjbljafhaaGreatDoorP19
namespace Go.Proofs.YtjhdamjbljafhaaGreatDoor
open Go.RowKit
def calls1 (s : ByteArray) (x : GWord) : Bool := ancB x.t && decide (ancT x.t = s)
def calledF (u k : GUnit) : Int := if k.kind ≠ 7 then -1 else idxI (calls1 k.label) u.words 0
theorem calledF_lt (u k : GUnit) : calledF u k < u.words.length := by
  unfold calledF
  split
  · omega
  · rcases idxI_range (calls1 k.label) u.words 0 with h | ⟨j, h1, h2, _⟩
    · rw [h]; omega
    · rw [h1]; omega
theorem calledF_ge (u k : GUnit) : -1 ≤ calledF u k := by
  unfold calledF
  split
  · omega
  · rcases idxI_range (calls1 k.label) u.words 0 with h | ⟨j, h1, h2, _⟩
    · rw [h]; omega
    · rw [h1]; omega
set_option maxRecDepth 100000 in
set_option maxHeartbeats 800000 in
theorem called1_any (x : GWord) (r : RUnit) (b : Nat) (w : World) (hb : BoxU b r w) (hx : x.t.size ≤ 1048576) : Calls Tryz.prog 60 #[.agg x.cells.toArray, .pointer (some ⟨b, 0, none⟩)] w fun e w' => e = .returned (.bool (calls1 r.label x)) ∧ Ext w w' := by
  obtain ⟨t, ma, mi, mk⟩ := x
  dsimp only at hx
  have hxa : Ext w (w.alloc (.cells #[.string t, .int .i64 ma, .int .i64 mi, .int .i64 mk] 105)) := (Ext.refl w).alloc _
  have Hp := Lib.hid (parseAnchor_any t (w.alloc (.cells #[.string t, .int .i64 ma, .int .i64 mi, .int .i64 mk] 105)) hx)
  have c4 := hb.c4
  have hlt := hb.lt
  obtain ⟨S, hS⟩ : ∃ S, r.label = S := ⟨_, rfl⟩
  rw [hS] at c4 ⊢
  have Hc4 := Lib.hid c4
  simp only [calls1, GWord.cells]
  unfold RetAnc at Hp
  obtain ⟨B, hB⟩ : ∃ B, ancB t = B := ⟨_, rfl⟩
  obtain ⟨T, hT⟩ : ∃ T, ancT t = T := ⟨_, rfl⟩
  rw [hB, hT] at Hp ⊢
  clear hS c4 hB hT hx
  go_enter Tryz.func60, Tryz.ntmps60
  go_wp2_with fail
  refine (Hp.out).mono ?_
  rintro e w1 ⟨rfl, hx1⟩
  have c4 := ((hxa.trans hx1).cell (p := ⟨b, 4, none⟩) hlt).trans Hc4.out
  have Hx1 := Lib.hid (hxa.trans hx1)
  clear Hp hx1 hxa hb
  cases B with
  | false =>
    go_wp2
    go_ret
    exact ⟨rfl, Hx1.out⟩
  | true =>
    cases hd : decide (T = S) with
    | true =>
      have he : T = S := of_decide_eq_true hd
      subst he
      clear hd
      go_wp2
      go_ret
      exact ⟨by simp, Hx1.out⟩
    | false =>
      have hne : (T.toList == S.toList) = false := by rw [beq_bytes]; simpa using of_decide_eq_false hd
      have Hne := Lib.hid (of_decide_eq_false hd)
      clear hd
      go_wp2
      go_ret
      exact ⟨by simp [Hne.out], Hx1.out⟩
set_option maxRecDepth 100000 in
set_option maxHeartbeats 1600000 in
theorem idxCall_any (A : Option Addr) (c : Nat) (l : List GWord) (r : RUnit) (B : Nat) (w : World) (hs : Sl wordEl w A l) (hb : BoxU B r w) (hn : l.length ≤ 1000) (hx : ∀ x ∈ l, x.t.size ≤ 100) :
    Calls Tryz.prog 59 #[.slice A l.length c, .func (.func 60) #[] #[.pointer (some ⟨B, 0, none⟩)]] w fun e w' => e = .returned (.int .i64 (idxI (calls1 r.label) l 0)) ∧ Ext w w' := by
  have Hc := Lib.hid (fun k (h : k < l.length) wq (he : Ext w wq) => called1_any l[k] r B wq (hb.ext he) (by have := hx _ (List.getElem_mem h); omega))
  have Hs := Lib.hid hs
  obtain ⟨R, hR⟩ : ∃ R, idxI (calls1 r.label) l 0 = R := ⟨_, rfl⟩
  have HR := Lib.hid (show idxI (calls1 r.label) (l.drop 0) ((0 : Nat)) = R from hR)
  rw [hR]
  obtain ⟨q, hq⟩ : ∃ q, calls1 r.label = q := ⟨_, rfl⟩
  rw [hq] at Hc HR
  clear hs hx hR hb hq
  go_enter Tryz.func59, Tryz.ntmps59
  go_wp2
  go_loopw [5, 8] (fun _ vk wr => ∃ k : Nat, k ≤ l.length ∧ vk = .int .i64 (k : Nat) ∧ Ext w wr ∧ Hid (idxI q (l.drop k) k = R)) (fun _ vk _ => l.length - (intOf vk).toNat)
  case atStart => exact ⟨0, Nat.zero_le _, rfl, Ext.refl _, HR⟩
  case round =>
    obtain ⟨k, hk, rfl, hext, HK⟩ := hrel
    by_cases hlt : k < l.length
    · obtain ⟨b, off, hAe, hb, u0, u1, u2, u3⟩ := wordAt (Hs.out.ext hext) hlt
      subst hAe
      have Hc2 := Lib.hid (Hc.out k hlt wr hext)
      have hi := idxI_drop (q := q) hlt
      obtain ⟨x, hx⟩ : ∃ x, l[k] = x := ⟨_, rfl⟩
      rw [hx] at u0 u1 u2 u3 Hc2 hi
      rw [HK.out] at hi
      obtain ⟨t, ma, mi, mk⟩ := x
      dsimp only at u0 u1 u2 u3
      simp only [GWord.cells] at Hc2
      have d1 : decide ((k : Int) < (l.length : Int)) = true := decide_eq_true (by omega)
      obtain ⟨b1, hb1⟩ : ∃ b1, q ⟨t, ma, mi, mk⟩ = b1 := ⟨_, rfl⟩
      rw [hb1] at Hc2 hi
      have Hi := Lib.hid hi
      clear hx hb1 hi
      go_wp2_with fail
      refine (Hc2.out).mono ?_
      rintro e w2 ⟨rfl, hx2⟩
      cases b1 with
      | true =>
        go_wp2
        go_ret
        exact ⟨by rw [Hi.out]; rfl, hext.trans hx2⟩
      | false =>
        go_wp2
        go_roundw
        case rel => exact ⟨k + 1, by omega, by go_num, hext.trans hx2, Lib.hid (by have := Hi.out; simpa using this.symm)⟩
        case measure => simp [intOf]; omega
    · have hR2 : R = -1 := by rw [← HK.out]; exact idxI_end (by omega)
      have d1 : decide ((k : Int) < (l.length : Int)) = false := decide_eq_false (by omega)
      subst hR2
      go_wp2
      go_ret
      exact ⟨rfl, hext⟩
set_option maxRecDepth 100000 in
set_option maxHeartbeats 1600000 in
theorem called_any (u k : GUnit) (ru rk : RUnit) (w : World) (hu : Reads w u ru) (hk : Reads w k rk) (hou : OkU u) : Calls Tryz.prog 33 #[.agg ru.cells.toArray, .agg rk.cells.toArray] w fun e w' => e = .returned (.int .i64 (calledF u k)) ∧ Ext w w' := by
  obtain ⟨-, -, -, -, -, -, hwn, hwc, hws, -, -, -⟩ := hu.flds
  obtain ⟨-, hkk, hkl, -⟩ := hk.flds
  obtain ⟨-, -, o3, -, -, o6⟩ := hou.all.head
  have hx0 : Ext w ((w.alloc (.cells ru.cells.toArray 27)).alloc (.cells rk.cells.toArray 27)) := ((Ext.refl w).alloc _).alloc _
  have hb1 := (BoxU.new ru w).ext ((Ext.refl _).alloc (.cells rk.cells.toArray 27))
  have hb2 := BoxU.new rk (w.alloc (.cells ru.cells.toArray 27))
  rw [show (w.alloc (.cells ru.cells.toArray 27)).heap.size = w.heap.size + 1 by simp] at hb2
  unfold calledF
  rw [← hkk, ← hkl]
  obtain ⟨wd, hwd⟩ : ∃ wd, u.words = wd := ⟨_, rfl⟩
  rw [hwd] at hwn hwc hws o3 o6 ⊢
  have Hi := Lib.hid (fun wq (he : Ext w wq) (hb : BoxU (w.heap.size + 1) rk wq) => idxCall_any ru.wA ru.wc wd rk (w.heap.size + 1) wq (hws.ext he) hb (by omega) o6)
  obtain ⟨R, hR⟩ : ∃ R, idxI (calls1 rk.label) wd 0 = R := ⟨_, rfl⟩
  rw [hR] at Hi ⊢
  obtain ⟨ra, ri, rn, rkk, rl, hdA, hn, hc, wA, wn, wc, kA, kn, kc⟩ := ru
  obtain ⟨qa, qi, qn, qk, ql, qhA, qhn, qhc, qwA, qwn, qwc, qkA, qkn, qkc⟩ := rk
  dsimp only at hwn hwc hws Hi ⊢
  subst hwn
  simp only [RUnit.cells] at hb1 hb2 hx0 ⊢
  obtain ⟨wb, hwb⟩ : ∃ wb, (w.alloc (.cells #[.int .i64 ra, .int .i64 ri, .int .i64 rn, .int .i64 rkk, .string rl, .slice hdA hn hc, .slice wA wd.length wc, .slice kA kn kc] 27)).alloc (.cells #[.int .i64 qa, .int .i64 qi, .int .i64 qn, .int .i64 qk, .string ql, .slice qhA qhn qhc, .slice qwA qwn qwc, .slice qkA qkn qkc] 27) = wb := ⟨_, rfl⟩
  rw [hwb] at hb1 hb2 hx0
  have Hwb := Lib.hid hwb
  have Hi2 := Lib.hid (Hi.out wb hx0 hb2)
  obtain ⟨hb10, c0, c1, c2, c3, c4, c5, c6, c7⟩ := hb1
  obtain ⟨hb20, e0, e1, e2, e3, e4, e5, e6, e7⟩ := hb2
  dsimp only at c0 c1 c2 c3 c4 c5 c6 c7 e0 e1 e2 e3 e4 e5 e6 e7
  have Hx0 := Lib.hid hx0
  clear hx0 hu hk hou hkk hkl hwc hws o3 o6 hwd hR Hi
  by_cases h7 : qk = 7
  · subst h7
    go_enter Tryz.func33, Tryz.ntmps33
    go_wp2_with fail
    refine (Hi2.out).mono ?_
    rintro e w2 ⟨rfl, hx2⟩
    go_wp2
    go_ret
    exact ⟨by simp, Hx0.out.trans hx2⟩
  · have n7 : (qk != 7) = true := by simpa using h7
    have n7' : (qk == 7) = false := by simpa using h7
    rw [if_pos h7]
    go_enter Tryz.func33, Tryz.ntmps33
    go_wp2
    go_ret
    exact ⟨rfl, Hx0.out⟩
end Go.Proofs.YtjhdamjbljafhaaGreatDoor
namespace Go.Proofs.YtjhdamjbljafhaaGreatDoor
open Go.RowKit
theorem wordB_of {s : ByteArray} (h : wordOk s) : wordB s := by
  obtain ⟨h1, h2, h3⟩ := h
  have hl : s.data.toList.length = s.size := Array.length_toList
  refine ⟨fun e => ?_, fun x hx => ?_⟩
  · rw [e] at hl; simp at hl; omega
  · have := h3 x hx
    unfold wordC at this
    omega
theorem tw_mem {p : UInt8 → Bool} : ∀ {l : List UInt8} {x : UInt8}, x ∈ l.takeWhile p → p x = true
  | c :: l, x, h => by
    rw [List.takeWhile_cons] at h
    cases hc : p c with
    | true =>
      rw [hc, if_pos rfl] at h
      rcases List.mem_cons.1 h with rfl | h
      · exact hc
      · exact tw_mem h
    | false => rw [hc] at h; simp at h
theorem dw_drop {p : UInt8 → Bool} : ∀ l : List UInt8, l.dropWhile p = l.drop (l.takeWhile p).length
  | [] => rfl
  | c :: l => by
    rw [List.takeWhile_cons, List.dropWhile_cons]
    cases hc : p c with
    | true => simpa [hc] using dw_drop l
    | false => simp [hc]
theorem mayL_chars {l : List UInt8} (h : mayL l = true) : (1 ≤ l.length ∧ l.length ≤ 7) ∧ ∀ x ∈ l, 48 ≤ x.toNat ∧ x.toNat ≤ 90 := by
  simp only [mayL, Bool.and_eq_true, decide_eq_true_eq, List.all_eq_true] at h
  obtain ⟨⟨⟨⟨h1, h2⟩, _⟩, h4⟩, h5⟩ := h
  have hle := dcF_le l
  refine ⟨⟨by omega, by omega⟩, fun x hx => ?_⟩
  rw [← List.takeWhile_append_dropWhile (p := isDig) (l := l)] at hx
  rcases List.mem_append.1 hx with hx | hx
  · have h6 := tw_mem hx
    simp only [isDig, Bool.and_eq_true, decide_eq_true_eq] at h6
    omega
  · have hd : l.dropWhile isDig = l.drop (dcF l) := dw_drop l
    rw [hd] at hx
    have h6 := h5 x hx
    simp only [isCap, Bool.and_eq_true, decide_eq_true_eq] at h6
    omega
theorem kindS_word {k : Int} (h0 : 0 ≤ k) (h7 : k ≤ 7) : wordB (kindS k) ∧ 1 ≤ (kindS k).size := by
  obtain ⟨n, rfl⟩ : ∃ n : Nat, k = n := ⟨k.toNat, by omega⟩
  have : n = 0 ∨ n = 1 ∨ n = 2 ∨ n = 3 ∨ n = 4 ∨ n = 5 ∨ n = 6 ∨ n = 7 := by omega
  unfold wordB
  rcases this with rfl | rfl | rfl | rfl | rfl | rfl | rfl | rfl <;> decide
theorem rowF_words {u : GUnit} (hv : AloneOk u) (hk : u.kind ≠ 0) : ∀ s ∈ rowF u, wordB s ∧ 1 ≤ s.size ∧ s.size ≤ 24 := by
  intro s hs
  simp only [rowF, List.mem_cons, List.mem_map, List.mem_append] at hs
  rcases hs with rfl | rfl | ⟨x, hx | hx, rfl⟩
  · have h1 := kindS_word hv.lo hv.hi
    have := kindS_size u.kind
    exact ⟨h1.1, h1.2, by omega⟩
  · obtain ⟨⟨h1, h2⟩, h3⟩ := mayL_chars (hv.label hk)
    have hl : u.label.data.toList.length = u.label.size := Array.length_toList
    refine ⟨⟨fun e => by rw [e] at h1; simp at h1, fun x hx => ?_⟩, by omega, by omega⟩
    have := h3 x hx
    omega
  · have := hv.head.2 x hx
    exact ⟨wordB_of this, this.1, this.2.1⟩
  · have := hv.words.2 x hx
    exact ⟨wordB_of this, this.1, this.2.1⟩
structure LinesOk (u : GUnit) (W : Int) : Prop where
  wrong : wrongF W (rowF u) = 0
  len : (linesU u W).length = (endsU u W).length
  len2 : (endsU u W).length ≤ 602
  ends : endsB ((rowF u).length : Int) 0 (endsU u W) = true
  sum : ((linesU u W).map nF).sum = 2 + u.head.length + u.words.length
  each : ∀ s ∈ linesU u W, (s.size : Int) ≤ W ∧ 1 ≤ nF s
theorem lines_ok {u : GUnit} {W : Int} (hok : OkU u) (hv : AloneOk u) (hk : u.kind ≠ 0) (h1 : 24 ≤ W) (h2 : W ≤ 200) : LinesOk u W := by
  have hb := rowF_brief hok
  have hw := rowF_words hv hk
  have hwr : wrongF W (rowF u) = 0 := by
    unfold wrongF
    rw [if_neg (by omega), if_neg (by have := hb.1; omega), if_neg]
    simp only [List.any_eq_true, not_exists, not_and]
    intro s hs
    have := (hw s hs).2
    simp [unfitB]
    omega
  have hF := fit_of hwr hb
  have hV := (bLines_val hF (rowF u).length 0 (Nat.zero_le _) (by omega)).1
  have hL : linesU u W = linesF (rowF u) 0 (endsU u W) := by
    unfold linesU linesR endsU
    rw [if_pos (show endsB ((rowF u).length : Int) 0 (bLines (rowF u) W) = true from hV.ends)]
  obtain ⟨hs1, hs2⟩ := linesF_sum (fun s hs => (hw s hs).1) (endsU u W) 0 (Nat.zero_le _) hV
  refine ⟨hwr, by rw [hL, linesF_length], ?_, hV.ends, by rw [hL, hs1, rowF_len]; omega, by rw [hL]; exact hs2⟩
  have h3 := bEndsF_len hF (rowF u).length 0 (Nat.zero_le _)
  have := hb.1
  show (bEndsF (rowF u) W (rowF u).length 0).length ≤ 602
  omega
end Go.Proofs.YtjhdamjbljafhaaGreatDoor
namespace Go.Proofs.YtjhdamjbljafhaaGreatDoor
open Go.RowKit
def TLt (b : Bool) : Ty := ⟨fun v _ => ∃ z : Int, v = .int .i64 z ∧ decide (z < 0) = b, fun _ _ _ _ h => h⟩
structure CmpC (g : Nat) (lt : (RUnit × GUnit) → (RUnit × GUnit) → Bool) (S : (RUnit × GUnit) → Prop) (J : World → Prop) (fv : Value) : Prop where
  keep : ∀ w w', J w → Kp g w w' → J w'
  call : ∃ bs : Array Value, fv = .func (.func 65) #[] bs ∧ ∀ x y w, S x → S y → J w → Calls Tryz.prog 65 (#[.agg (pairEl.E x).toArray, .agg (pairEl.E y).toArray] ++ bs) w fun e w' => ∃ z : Int, e = .returned (.int .i64 z) ∧ decide (z < 0) = lt x y ∧ Ext w w'
section
variable {g cap n : Nat} {lt : (RUnit × GUnit) → (RUnit × GUnit) → Bool} {S : (RUnit × GUnit) → Prop} {J : World → Prop} {fv : Value} {ρ : Operand → Value} {o : Oper} {w : World} {xs : List (RUnit × GUnit)} {X Y : RUnit × GUnit}
theorem yld_cmp (C : CmpC g lt S J fv) (f x y : Operand) (ts : Array TypeId) (ho : o.op = .call { callee := .value f, args := #[x, y], argTypes := ts }) (hf : ρ f = fv) (hx : ρ x = .agg (pairEl.E X).toArray) (hy : ρ y = .agg (pairEl.E Y).toArray) (sX : S X) (sY : S Y) (hJ : J w) :
    Yld Tryz.prog ρ o w (TLt (lt X Y)).p := by
  obtain ⟨bs, rfl, hc⟩ := C.call
  have hr : (execOp ρ o).run Tryz.prog w = .ok (.enter 65 (#[.agg (pairEl.E X).toArray, .agg (pairEl.E Y).toArray] ++ bs)) w := by
    simp [execOp, ho, resolve, Deferred.ofValue, hf, invoke, hx, hy, Tryz.call65]
  unfold Yld
  rw [hr]
  refine (hc X Y w sX sY hJ).mono ?_
  rintro e w' ⟨z, rfl, hz, he⟩
  exact ⟨_, rfl, he, z, rfl, hz⟩
theorem yld_indexRw (x i : Operand) (ho : o.op = .indexAddr 25 x i) (hx : ρ x = .slice (some ⟨g, 0, none⟩) n cap) (k : Nat) (hi : ρ i = .int .i64 k) (hrw : Rw g cap n w xs) (hk : xs[k]? = some X) : Yld Tryz.prog ρ o w (TCells (pairEl.E X)).p := by
  obtain ⟨hl, hown⟩ := hrw
  subst hl
  obtain ⟨A, c', hv, hc, hsl⟩ := hown.form
  cases hv
  exact yld_indexAt pairEl x i ho _ xs cap hx k hi hsl X hk
theorem yld_loadRw (x : Operand) (ho : o.op = .load 27 x) (hp : (TCells (pairEl.E X)).p (ρ x) w) : Yld Tryz.prog ρ o w (Ty.is (.agg (pairEl.E X).toArray)).p :=
  yld_loadAgg 27 x ho Tryz.isAgg27 8 Tryz.sizeOf27 (pairEl.E X) (pairEl.hE X) hp rfl
theorem yld_neg (t t' : TypeId) (x y : Operand) (ho : o.op = .binOp .lss t x y t') (b : Bool) (hx : (TLt b).p (ρ x) w) (hy : ρ y = .int .i64 0) : Yld Tryz.prog ρ o w (Ty.is (.bool b)).p := by
  obtain ⟨z, hz, hb⟩ := hx
  exact yld_binInt .lss t t' x y ho z 0 hz hy (fun w => by rw [run_lss_i64, hb]) rfl
end
end Go.Proofs.YtjhdamjbljafhaaGreatDoor
