/- put, of the reference and of the program: new words at places, a number of old words dropped at each. -/
import Derived.Test.YtkbmocgjbhmioaaTexts
namespace Go.Proofs.Ytkbmocgjbhmioaa
open Go.RowKit

/-- from place number i on, where the old words up to index b are done -/
def putR (w : List GWord) (gone : Nat) (fresh : List ByteArray) (act item : Int) : Nat → Nat → List Nat → List GWord
  | _, b, [] => w.drop b
  | i, b, p :: ps => (w.drop b).take (p - b) ++ (markF act item ((i : Int) * fresh.length) fresh ++ putR w gone fresh act item (i + 1) (p + gone) ps)
def goodP (n gone : Nat) : Nat → List Nat → Prop
  | b, [] => b ≤ n
  | b, p :: ps => b ≤ p ∧ p + gone ≤ n ∧ goodP n gone (p + gone) ps
theorem goodP_le {n gone : Nat} : ∀ {b : Nat} {ps : List Nat}, goodP n gone b ps → b ≤ n
  | _, [], h => h
  | _, _ :: _, h => by have := h.1; have := h.2.1; omega

set_option maxRecDepth 100000 in
set_option maxHeartbeats 1600000 in
theorem refPut_any (A B C : Option Addr) (c d f : Nat) (l : List GWord) (xs : List Int) (ps : List Nat) (gone : Nat) (fresh : List ByteArray) (act item : Int) (w : World) (hl : Sl wordEl w A l) (hx : Sl intEl w B xs) (hy : Sl strEl w C fresh)
    (hn : l.length ≤ 65536) (hp : xs.length ≤ 65536) (hg : gone ≤ 65536) (hm : fresh.length ≤ 65536) (hc : l.length ≤ c) (Hx : Hid (xs = ps.map (fun n : Nat => (n : Int)))) (hgood : goodP l.length gone 0 ps) :
    Calls Try.prog 41 #[.slice A l.length c, .slice B xs.length d, .int .i64 gone, .slice C fresh.length f, .int .i64 act, .int .i64 item] w (RetOwn wordEl w (putR l gone fresh act item 0 0 ps)) := by
  have hpl : ps.length = xs.length := by rw [Hx.out, List.length_map]
  have Hpl := Lib.hid hpl
  obtain ⟨T0, hT⟩ : ∃ T0, putR l gone fresh act item 0 0 ps = T0 := ⟨_, rfl⟩
  rw [hT]
  have HT := Lib.hid hT
  have HG := Lib.hid hgood
  clear hT hpl hgood
  go_enter Try.func41, Try.ntmps41
  go_wp2
  go_loopw [13, 14, 15] (fun out b i wr => ∃ (k b0 : Nat) (acc : List GWord), k ≤ xs.length ∧ i = .int .i64 k ∧ b = .int .i64 b0 ∧ b0 ≤ l.length ∧ Hid (goodP l.length gone b0 (ps.drop k)) ∧ acc.length ≤ b0 + k * fresh.length ∧
    Hid (T0 = acc ++ putR l gone fresh act item k b0 (ps.drop k)) ∧ Own wordEl w.heap.size wr out acc ∧ Ext w wr) (fun _ _ i _ => xs.length - (intOf i).toNat)
  case atStart => exact ⟨0, 0, [], Nat.zero_le _, rfl, rfl, Nat.zero_le _, HG, by simp, by unfold Hid; rw [← HT.out]; rfl, Own.made wordEl (Nat.le_refl _), (Ext.refl _).alloc _⟩
  case round =>
    obtain ⟨k, b0, acc, hk, rfl, rfl, hb0, HGk, hacc, Hacc, hown, hext⟩ := hrel
    have hsz := hext.size
    have hbound : k * fresh.length ≤ 65536 * 65536 := Nat.mul_le_mul (by omega) hm
    have hbi : (0 : Int) ≤ (k : Int) * (fresh.length : Int) := by rw [← Int.natCast_mul]; omega
    have hbi2 : (k : Int) * (fresh.length : Int) ≤ 4294967296 := by rw [← Int.natCast_mul]; omega
    by_cases hlt : k < xs.length
    · have hkp : k < ps.length := by rw [Hpl.out]; exact hlt
      obtain ⟨p, hpk⟩ : ∃ p, ps[k] = p := ⟨_, rfl⟩
      have hxk : xs[k] = (p : Int) := by rw [← hpk]; simp [Hx.out]
      have hdrop : ps.drop k = p :: ps.drop (k + 1) := by rw [List.drop_eq_getElem_cons hkp, hpk]
      have hG := HGk.out
      rw [hdrop] at hG
      obtain ⟨hG1, hG2, hG3⟩ := hG
      have HG3 := Lib.hid hG3
      have Hdrop := Lib.hid hdrop
      obtain ⟨b, off, rfl, hb, hcell⟩ := intAt hx hlt
      have hcr := (hext.cell (p := ⟨b, off + k, none⟩) hb).trans hcell
      rw [hxk] at hcr
      have hlw := hl.ext hext
      have hyw := hy.ext hext
      have Hcell := Lib.hid (hxk ▸ hcell)
      clear hpk hxk hdrop hG3 hcell hkp HGk
      go_wp2_with (first | (refine wpList_sl wordEl rfl _ _ _ rfl rfl _ _ rfl rfl hlw b0 p (by omega) (by omega) hG1 (by omega) hc ?_; intro A1 ys c1 Hy hl1 hs1; have hyl : ys.length = p - b0 := (by rw [Hy.out]; simp; omega); have Hyl := Lib.hid hyl; clear hyl) |
        (at_builtin; refine wpList_app wordEl rfl (.tmp 23) (.tmp 30) rfl _ rfl hown rfl hs1 (by rw [Hyl.out]; omega) hsz ?_; intro v1 w1 hown1 hb1 hg1) |
        (go_at_call 17; refine (refMark_any _ _ _ _ _ _ _ (hy.ext (hext.trans' hb1)) (by omega) (by omega) (by omega)).mono ?_; rintro e w2 ⟨v2, rfl, hown2, hext2⟩; obtain ⟨A2, c2, rfl, hc2, hs2⟩ := hown2.form) |
        (at_builtin; refine wpList_app wordEl rfl (.tmp 32) (.tmp 40) rfl _ rfl (hown1.ext hext2) rfl hs2 (by rw [markF_length, List.length_append, Hyl.out]; omega) (by have := hext2.size; have := hb1.size; omega) ?_; intro v3 w3 hown3 hb3 hg3; have hext3 : Ext w w3 := ((hext.trans' hb1).trans hext2).trans' hb3; have hcr3 := (hext3.cell (p := ⟨b, off + k, none⟩) hb).trans (Hcell.out)))
      go_roundw
      case rel =>
        refine ⟨k + 1, p + gone, (acc ++ ys) ++ markF act item ((k : Int) * fresh.length) fresh, hlt, by go_num, by go_num, hG2, HG3, ?_, ?_, hown3, hext3⟩
        · rw [List.length_append, List.length_append, Hyl.out, markF_length, Nat.succ_mul]; omega
        · unfold Hid
          rw [Hacc.out, Hdrop.out, putR, ← Hy.out]
          simp only [List.append_assoc]
      case measure => simp [intOf]; omega
    · have hkx : k = xs.length := by omega
      have hd0 : ps.drop k = [] := List.drop_eq_nil_of_le (by rw [Hpl.out]; omega)
      have Hd0 := Lib.hid hd0
      clear hkx hd0
      go_wp2_with (first | (refine wpList_slFrom wordEl rfl _ _ rfl rfl _ rfl (hl.ext hext) b0 rfl hb0 hc ?_; intro A1 ys c1 Hy hl1 hs1; have hyl : ys.length ≤ 65536 := (by rw [Hy.out]; simp; omega)) |
        (at_builtin; refine wpList_app wordEl rfl (.tmp 48) (.tmp 51) rfl _ rfl hown rfl hs1 (by have := Nat.mul_le_mul (show k ≤ 65536 by omega) hm; omega) hsz ?_; intro v1 w1 hown1 hb1 hg1))
      go_ret
      refine ⟨_, rfl, ?_, hext.trans' hb1⟩
      rw [Hacc.out, Hd0.out, putR, ← Hy.out]
      exact hown1

/-- the words behind the places from number k on, and ahead of them the old ones -/
def outC (w : List GWord) (gone : Nat) (fresh : List ByteArray) (act item : Int) (ps : List Nat) (k : Nat) : List GWord :=
  match ps.drop k with
  | [] => w
  | p :: _ => w.take p ++ putR w gone fresh act item k p (ps.drop k)

theorem outC_split {w : List GWord} {gone : Nat} {fresh : List ByteArray} {act item : Int} {ps : List Nat} {k b : Nat} (h : goodP w.length gone b (ps.drop k)) :
    outC w gone fresh act item ps k = w.take b ++ putR w gone fresh act item k b (ps.drop k) := by
  unfold outC
  split
  · rename_i e; rw [e, putR, List.take_append_drop]
  · rename_i p r e
    rw [e] at h ⊢
    have h1 := h.1
    simp only [putR]
    rw [Nat.sub_self, List.take_zero, List.nil_append, ← List.append_assoc (w.take b)]
    congr 1
    rw [← List.take_append_drop b (w.take p), List.take_take, Nat.min_eq_left h1, List.drop_take]

theorem goodP_at {n gone : Nat} : ∀ {ps : List Nat} {b k p : Nat}, goodP n gone b ps → ps[k]? = some p → b ≤ p ∧ p + gone ≤ n ∧ goodP n gone (p + gone) (ps.drop (k + 1))
  | [], _, _, _, _, h => by simp at h
  | q :: ps, b, 0, p, h, hk => by
    simp only [List.getElem?_cons_zero, Option.some.injEq] at hk
    subst hk
    exact ⟨h.1, h.2.1, by simpa using h.2.2⟩
  | q :: ps, b, k + 1, p, h, hk => by
    have ih := goodP_at h.2.2 (show ps[k]? = some p by simpa using hk)
    have h1 := h.1
    exact ⟨by omega, ih.2.1, by simpa using ih.2.2⟩

theorem outC_step {w : List GWord} {gone : Nat} {fresh : List ByteArray} {act item : Int} {ps : List Nat} {k p : Nat} (h : goodP w.length gone 0 ps) (hp : ps[k]? = some p) :
    p + gone ≤ (outC w gone fresh act item ps (k + 1)).length ∧
    outC w gone fresh act item ps k = (outC w gone fresh act item ps (k + 1)).take p ++ (markF act item ((k : Int) * fresh.length) fresh ++ (outC w gone fresh act item ps (k + 1)).drop (p + gone)) := by
  obtain ⟨h1, h2, h3⟩ := goodP_at h hp
  have hk : k < ps.length := (List.getElem?_eq_some_iff.1 hp).1
  have hd : ps.drop k = p :: ps.drop (k + 1) := by
    rw [List.drop_eq_getElem_cons hk]
    congr 1
    have := List.getElem?_eq_getElem hk
    rw [hp] at this
    exact (Option.some.inj this).symm
  rw [outC_split h3]
  have hl : (w.take (p + gone)).length = p + gone := by simp; omega
  refine ⟨by rw [List.length_append, hl]; omega, ?_⟩
  unfold outC
  rw [hd]
  simp only [putR]
  rw [Nat.sub_self, List.take_zero, List.nil_append, List.take_append_of_le_length (by omega), List.take_take, Nat.min_eq_left (by omega)]
  rw [List.drop_left' hl]

theorem outC_zero {w : List GWord} {gone : Nat} {fresh : List ByteArray} {act item : Int} {ps : List Nat} (h : goodP w.length gone 0 ps) : outC w gone fresh act item ps 0 = putR w gone fresh act item 0 0 ps := by
  rw [outC_split (b := 0) (by simpa using h)]
  simp

/-- what the two forms of put hand back: the words, or 6 where they are too many -/
def RetHeld (w : World) (xs : List GWord) (e : Ending) (w' : World) : Prop :=
  ((xs.length ≤ 256 ∧ ∃ A c, e = .returned (.tuple #[.slice A xs.length c, .int .i64 0]) ∧ xs.length ≤ c ∧ Sl wordEl w' A xs) ∨ (256 < xs.length ∧ e = .returned (.tuple #[.slice none 0 0, .int .i64 6]))) ∧ Ext w w'

set_option maxRecDepth 100000 in
set_option maxHeartbeats 1600000 in
theorem put_any (A B C : Option Addr) (c d f : Nat) (l : List GWord) (xs : List Int) (ps : List Nat) (gone : Nat) (fresh : List ByteArray) (act item : Int) (w : World) (hl : Sl wordEl w A l) (hx : Sl intEl w B xs) (hy : Sl strEl w C fresh)
    (hn : l.length ≤ 65536) (hp : xs.length ≤ 65536) (hg : gone ≤ 65536) (hm : fresh.length ≤ 65536) (Hx : Hid (xs = ps.map (fun n : Nat => (n : Int)))) (hgood : goodP l.length gone 0 ps) :
    Calls Try.prog 37 #[.slice A l.length c, .slice B xs.length d, .int .i64 gone, .slice C fresh.length f, .int .i64 act, .int .i64 item] w (RetHeld w (putR l gone fresh act item 0 0 ps)) := by
  have hpl : ps.length = xs.length := by rw [Hx.out, List.length_map]
  have Hpl := Lib.hid hpl
  have HG := Lib.hid hgood
  have hz := outC_zero (fresh := fresh) (act := act) (item := item) hgood
  have hend : l = outC l gone fresh act item ps xs.length := by unfold outC; rw [List.drop_of_length_le (by omega)]
  rw [← hz]
  have Hend := Lib.hid hend
  have hprod : xs.length * fresh.length ≤ 65536 * 65536 := Nat.mul_le_mul hp hm
  obtain ⟨pr, hpr⟩ : ∃ pr, xs.length * fresh.length = pr := ⟨_, rfl⟩
  rw [hpr] at hprod
  have Hpr := Lib.hid hpr
  clear hpl hgood hz hend hpr
  go_enter Try.func37, Try.ntmps37
  go_wp2_with (first | (at_make; refine wpList_mk wordEl rfl _ _ rfl _ _ rfl rfl l.length rfl rfl (by omega) (Nat.le_refl _) ?_; intro w1 hown1 hext1 hsz1) |
    (refine wpList_cpy wordEl rfl (.tmp 21) (.tmp 22) rfl c _ rfl rfl hown1 (hl.ext hext1) rfl ?_; intro w2 hown2 hg2))
  obtain ⟨A0, c0, hv0, hc0, hs0⟩ := hown2.form
  have hext2 : Ext w w2 := hext1.trans' (base := w.heap.size) ((Below.refl _ _).grown hg2 (by omega) (fun k hk => by cases hk; exact Nat.le_refl _))
  cases hv0
  clear hown1 hown2 hg2 hsz1 hext1
  go_loopw [14, 15] (fun out i wr => ∃ (k : Nat) (ys : List GWord) (A1 : Option Addr) (c1 : Nat), k ≤ xs.length ∧ i = .int .i64 ((k : Int) - 1) ∧ out = .slice A1 ys.length c1 ∧ Hid (ys = outC l gone fresh act item ps k) ∧ ys.length + k * fresh.length ≤ l.length + pr ∧
    ys.length ≤ c1 ∧ Sl wordEl wr A1 ys ∧ Ext w wr) (fun _ i _ => (intOf i + 1).toNat)
  case atStart => exact ⟨xs.length, l, _, _, Nat.le_refl _, rfl, rfl, Hend, by rw [Hpr.out]; omega, hc0, hs0, hext2⟩
  case round =>
    obtain ⟨k, ys, A1, c1, hk, rfl, rfl, Hys, hlen, hc1, hs1, hext⟩ := hrel
    have hsz := hext.size
    by_cases hk0 : k = 0
    · subst hk0
      by_cases hbig : ys.length ≤ 256
      · go_wp2
        go_ret2
        rw [← Hys.out]
        exact ⟨.inl ⟨hbig, A1, c1, rfl, hc1, hs1⟩, hext⟩
      · go_wp2
        go_ret2
        rw [← Hys.out]
        exact ⟨.inr ⟨by omega, rfl⟩, hext⟩
    · obtain ⟨k', rfl⟩ : ∃ k', k = k' + 1 := ⟨k - 1, by omega⟩
      have ek : (((k' + 1 : Nat) : Int) - 1) = (k' : Int) := by omega
      rw [ek]
      have hkp : k' < ps.length := by rw [Hpl.out]; omega
      obtain ⟨p, hpk⟩ : ∃ p, ps[k']? = some p := ⟨_, List.getElem?_eq_getElem hkp⟩
      have hlt : k' < xs.length := by omega
      have hxk : xs[k'] = (p : Int) := by
        have e1 := Hx.out
        subst e1
        simp [List.getElem?_eq_getElem hkp] at hpk
        simp [hpk]
      obtain ⟨hG1, hG2, _⟩ := goodP_at HG.out hpk
      obtain ⟨hst1, hst2⟩ := outC_step (fresh := fresh) (act := act) (item := item) HG.out hpk
      rw [← Hys.out] at hst1 hst2
      have Hst2 := Lib.hid hst2
      obtain ⟨b, off, rfl, hb, hcell⟩ := intAt hx hlt
      have hcr := (hext.cell (p := ⟨b, off + k', none⟩) hb).trans hcell
      rw [hxk] at hcr
      have hyw := hy.ext hext
      have hsucc : (k' + 1) * fresh.length = k' * fresh.length + fresh.length := Nat.succ_mul _ _
      have hbound : k' * fresh.length ≤ l.length + pr := by omega
      have hbi : (0 : Int) ≤ (k' : Int) * (fresh.length : Int) := by rw [← Int.natCast_mul]; omega
      have hbi2 : (k' : Int) * (fresh.length : Int) ≤ 4295032832 := by rw [← Int.natCast_mul]; omega
      clear hpk hxk hcell hkp hst2 ek hk0 hsucc
      go_wp2_with (refine wpList_slFrom wordEl rfl (.tmp 35) (.tmp 38) rfl rfl _ rfl hs1 (p + gone) (by omega) hst1 hc1 ?_; intro A2 rs c2 Hrs hl2 hs2)
      refine wp_drawn_tail 14 (fun i => match i with | 0 => Ty.is (.slice A1 ys.length c1) | 1 => Ty.is (.int .i64 p) | 2 => Ty.is (.int .i64 p) | 3 => TFull wordEl (ys.take p) | 4 => Ty.is (.slice C fresh.length f) | 5 => Ty.is (.int .i64 act) | 6 => Ty.is (.int .i64 item) | 7 => Ty.is (.int .i64 k') | 8 => Ty.is (.slice C fresh.length f) | 9 => Ty.is (.int .i64 fresh.length) | 10 => Ty.is (.int .i64 (k' * fresh.length)) | 11 => TSl wordEl (markF act item ((k' : Int) * fresh.length) fresh) | 12 => TGrown wordEl wr.heap.size (ys.take p) (markF act item ((k' : Int) * fresh.length) fresh) | 13 => Ty.is (.slice A2 rs.length c2) | _ => Ty.any) (by kernel_rfl) (by kernel_rfl) (by kernel_rfl) (by decide) rfl ?_
      intro v
      refine ⟨?_, ?_, ?_, ?_, ?_, ?_, ?_, ?_, ?_, ?_, ?_, ?_, ?_, ?_, ?_⟩
      · intro wq hq hd
        refine ob_plain rfl ?_
        refine yld_move (.tmp 14) rfl rfl rfl
      · intro wq hq hd
        refine ob_plain rfl ?_
        refine yld_move (.tmp 16) rfl rfl rfl
      · intro wq hq hd
        refine ob_plain rfl ?_
        refine yld_move (.tmp 16) rfl rfl rfl
      · intro wq hq hd
        obtain ⟨h0, h1, h2, -⟩ := hd
        change v 0 = _ at h0
        change v 1 = _ at h1
        change v 2 = _ at h2
        refine ob_plain rfl ?_
        exact yld_slice3 wordEl (.tmp 40) (.tmp 41) (.tmp 42) rfl c1 h0 p h1 h2 (hs1.ext hq) (by omega) hc1
      · intro wq hq hd
        refine ob_plain rfl ?_
        refine yld_move (.tmp 3) rfl rfl rfl
      · intro wq hq hd
        refine ob_plain rfl ?_
        refine yld_move (.tmp 4) rfl rfl rfl
      · intro wq hq hd
        refine ob_plain rfl ?_
        refine yld_move (.tmp 5) rfl rfl rfl
      · intro wq hq hd
        refine ob_plain rfl ?_
        refine yld_move (.tmp 15) rfl rfl rfl
      · intro wq hq hd
        refine ob_plain rfl ?_
        refine yld_move (.tmp 3) rfl rfl rfl
      · intro wq hq hd
        obtain ⟨h0, -⟩ := hd
        change v 8 = _ at h0
        refine ob_plain rfl ?_
        refine yld_len (.tmp 48) 23 _ Try.underlying23 rfl _ _ _ h0 rfl
      · intro wq hq hd
        obtain ⟨h0, h1, -⟩ := hd
        change v 7 = _ at h0
        change v 9 = _ at h1
        refine ob_plain rfl ?_
        refine yld_binInt .mul 3 3 (.tmp 47) (.tmp 49) rfl _ _ h0 h1 (run_mul_i64 _ _ _ (by omega) (by omega)) rfl
      · intro wq hq hd
        obtain ⟨h0, h1, h2, h3, -⟩ := hd
        change v 4 = _ at h0
        change v 5 = _ at h1
        change v 6 = _ at h2
        change v 10 = _ at h3
        refine ob_plain rfl ?_
        refine yld_call 29 Try.call29 _ _ rfl rfl [_, _, _, _] ⟨h0, h1, h2, h3, trivial⟩ ?_
        refine (mark_any _ _ _ _ _ _ _ (hyw.ext hq) (by omega) (by omega) (by omega)).mono ?_
        rintro e w' ⟨v', rfl, hown, hext'⟩
        obtain ⟨A3, c3, rfl, hc3, hs3⟩ := hown.form
        exact ⟨_, rfl, hext', A3, c3, rfl, hc3, hs3⟩
      · intro wq hq hd
        obtain ⟨h0, h1, h2, -⟩ := hd
        refine ob_plain rfl ?_
        obtain ⟨A3, h0, hs3⟩ := h0
        obtain ⟨A4, c4, h1, hc4, hs4⟩ := h1
        exact yld_appFull wordEl (.tmp 43) (.tmp 51) rfl c4 _ h0 h1 hs3 hs4 (by rw [markF_length, List.length_take]; omega) hq.size
      · intro wq hq hd
        refine ob_plain rfl ?_
        refine yld_move (.tmp 17) rfl rfl rfl
      · intro wq hq hT
        have h12 := hT 12 (by decide)
        have h13 := hT 13 (by decide)
        change v 13 = _ at h13
        change (TGrown wordEl wr.heap.size (ys.take p) (markF act item ((k' : Int) * fresh.length) fresh)).p (v 12) wq at h12
        clear hT
        simp only [List.drop_succ_cons, List.drop_zero, putE, setsE, List.set_cons_succ, List.set_cons_zero, Nat.reduceAdd]
        rw [h13]
        generalize v 12 = x12 at h12 ⊢
        go_wp2_with (at_builtin; refine wpList_appGrown wordEl rfl (.tmp 52) (.tmp 53) rfl c2 rfl rfl h12 (hs2.ext hq) (by rw [markF_length, Hrs.out]; simp; omega) hq.size ?_; intro A5 c5 zs w5 Hzs hc5 hs5 hb5)
        go_roundw
        case rel =>
          refine ⟨k', zs, A5, c5, by omega, rfl, rfl, ?_, ?_, hc5, hs5, hext.trans (Ext.trans' hq hb5)⟩
          · unfold Hid
            rw [Hst2.out, Hzs.out, Hrs.out, List.append_assoc]
          · have e := congrArg List.length Hzs.out
            simp only [List.length_append, List.length_take, markF_length, Hrs.out, List.length_drop] at e
            have e3 : (k' + 1) * fresh.length = k' * fresh.length + fresh.length := Nat.succ_mul _ _
            omega
        case measure => simp [intOf]

end Go.Proofs.Ytkbmocgjbhmioaa
