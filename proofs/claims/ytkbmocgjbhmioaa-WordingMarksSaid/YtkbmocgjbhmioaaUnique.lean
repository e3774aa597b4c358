/- The law on unique marks: what Replace and InsertAfter hand back keeps the old marks in order and numbers the new words from 0. -/
import Derived.Test.YtkbmocgjbhmioaaOnce
namespace Go.Proofs.Ytkbmocgjbhmioaa
open Go.RowKit

theorem markF_get (act item : Int) : ∀ (f : Int) (l : List ByteArray) (k : Nat) (x : GWord), (markF act item f l)[k]? = some x → x.a = act ∧ x.k = f + k
  | f, [], k, x, h => by simp [markF] at h
  | f, s :: l, 0, x, h => by
    simp only [markF, List.getElem?_cons_zero, Option.some.injEq] at h
    subst h
    simp
  | f, s :: l, k + 1, x, h => by
    simp only [markF, List.getElem?_cons_succ] at h
    obtain ⟨h1, h2⟩ := markF_get act item (f + 1) l k x h
    exact ⟨h1, by rw [h2]; push_cast; omega⟩

/-- from whatever old mark below b on -/
def fromB (w : List GWord) (b : Nat) (f : Int) (r : List GWord) : Prop := ∀ o : Int, o < b → onceF w o f r = true
theorem fromB_mono {w : List GWord} {b b' : Nat} {f : Int} {r : List GWord} (h : fromB w b f r) (hb : b' ≤ b) : fromB w b' f r := fun o ho => h o (by omega)
theorem fromB_seg {w : List GWord} (hw : ∀ (k : Nat) (x : GWord), w[k]? = some x → x.a = 3 ∧ x.k = k) {f : Int} {r : List GWord} : ∀ (m b : Nat), b + m ≤ w.length → fromB w (b + m) f r → fromB w b f ((w.drop b).take m ++ r)
  | 0, b, _, h => by simpa using h
  | m + 1, b, hb, h => by
    intro o ho
    have hlt : b < w.length := by omega
    have hg : w[b]? = some w[b] := List.getElem?_eq_getElem hlt
    obtain ⟨h1, h2⟩ := hw b _ hg
    have ih := fromB_seg hw (r := r) (f := f) m (b + 1) (by omega) (by rwa [show b + 1 + m = b + (m + 1) from by omega])
    rw [List.drop_eq_getElem_cons hlt, List.take_succ_cons, List.cons_append, onceF, if_pos h1, h2, if_neg (by omega), if_neg (by omega), if_pos (by rw [Int.toNat_natCast]; exact hg)]
    exact ih b (by omega)
theorem fromB_fresh {w : List GWord} {b : Nat} {r : List GWord} : ∀ (fresh : List ByteArray) (f : Int), fromB w b (f + fresh.length) r → fromB w b f (markF 7 1 f fresh ++ r)
  | [], f, h => by simpa [markF] using h
  | s :: fresh, f, h => by
    intro o ho
    have ih := fromB_fresh (w := w) (b := b) (r := r) fresh (f + 1) (by
      simp only [List.length_cons] at h
      push_cast at h
      rwa [show f + 1 + (fresh.length : Int) = f + ((fresh.length : Int) + 1) from by omega])
    rw [markF, List.cons_append, onceF, if_neg (by simp), if_pos rfl]
    exact ih o ho
theorem fromB_put {w : List GWord} (hw : ∀ (k : Nat) (x : GWord), w[k]? = some x → x.a = 3 ∧ x.k = k) (gone : Nat) (fresh : List ByteArray) : ∀ (ps : List Nat) (i b : Nat), goodP w.length gone b ps → fromB w b ((i : Int) * fresh.length) (putR w gone fresh 7 1 i b ps)
  | [], i, b, h => by
    have h' : b ≤ w.length := h
    have := fromB_seg hw (r := []) (f := (i : Int) * fresh.length) (w.length - b) b (by omega) (fun o _ => rfl)
    rwa [List.append_nil, List.take_of_length_le (by simp)] at this
  | p :: ps, i, b, h => by
    have h1 : b ≤ p := h.1
    have h2 : p + gone ≤ w.length := h.2.1
    rw [putR]
    refine fromB_seg hw (p - b) b (by omega) ?_
    rw [show b + (p - b) = p from by omega]
    refine fromB_fresh fresh _ ?_
    have ih := fromB_put hw gone fresh ps (i + 1) (p + gone) h.2.2
    rw [show ((i : Int) * fresh.length + fresh.length) = ((i + 1 : Nat) : Int) * fresh.length from by push_cast; rw [Int.add_mul, Int.one_mul]]
    exact fromB_mono ih (by omega)
theorem putR_length {w : List GWord} {fresh : List ByteArray} {act item : Int} : ∀ (ps : List Nat) (i b : Nat), goodP w.length 0 b ps → (putR w 0 fresh act item i b ps).length = w.length - b + ps.length * fresh.length
  | [], i, b, h => by simp [putR]
  | p :: ps, i, b, h => by
    have h1 : b ≤ p := h.1
    have h2 : p + 0 ≤ w.length := h.2.1
    rw [putR, List.length_append, List.length_append, putR_length ps (i + 1) (p + 0) h.2.2, markF_length, List.length_take, List.length_drop, List.length_cons, Nat.succ_mul]
    omega

theorem heldF_ok {xs : List GWord} (h : (heldF xs).2 = 0) : (heldF xs).1 = xs := by
  unfold heldF at h ⊢
  split
  · rfl
  · rename_i hc
    rw [if_neg hc] at h
    cases h
theorem repF_once {w : List GWord} (hw : ∀ (k : Nat) (x : GWord), w[k]? = some x → x.a = 3 ∧ x.k = k) {old fresh : List ByteArray} {nth : Int} (h : (repF w old fresh nth 7 1).2 = 0) : onceF w (-1) 0 (repF w old fresh nth 7 1).1 = true := by
  unfold repF at h ⊢
  by_cases h0 : old.length = 0 ∨ nth < 0
  · rw [if_pos h0] at h; cases h
  · rw [if_neg h0] at h ⊢
    by_cases h1 : chosenF (findF (w.map GWord.t) old) nth = []
    · rw [if_pos h1] at h; cases h
    · rw [if_neg h1] at h ⊢
      obtain ⟨ps, hps, hgood⟩ := chosen_good (w.map GWord.t) old nth (by omega)
      rw [heldF_ok h, hps, toNat_map]
      rw [List.length_map] at hgood
      have := fromB_put hw old.length fresh ps 0 0 hgood (-1) (by omega)
      simpa using this
theorem insF_once {w : List GWord} (hw : ∀ (k : Nat) (x : GWord), w[k]? = some x → x.a = 3 ∧ x.k = k) {part fresh : List ByteArray} {nth : Int} (h : (insF w part fresh nth 7 1).2 = 0) :
    onceF w (-1) 0 (insF w part fresh nth 7 1).1 = true ∧ w.length < (insF w part fresh nth 7 1).1.length := by
  unfold insF at h ⊢
  by_cases h0 : fresh.length = 0 ∨ nth < 0 ∨ (part.length = 0 ∧ nth ≠ 0)
  · rw [if_pos h0] at h; cases h
  · rw [if_neg h0] at h ⊢
    by_cases hp : part.length = 0
    · rw [if_pos hp] at h ⊢
      rw [heldF_ok h]
      have hgood : goodP w.length 0 0 [0] := ⟨Nat.le_refl _, Nat.zero_le _, Nat.zero_le _⟩
      refine ⟨?_, ?_⟩
      · have := fromB_put hw 0 fresh [0] 0 0 hgood (-1) (by omega)
        simpa using this
      · rw [putR_length _ _ _ hgood]
        simp
        omega
    · rw [if_neg hp] at h ⊢
      by_cases h1 : chosenF (findF (w.map GWord.t) part) nth = []
      · rw [if_pos h1] at h; cases h
      · rw [if_neg h1] at h ⊢
        obtain ⟨ps, hps, hgood⟩ := chosen_good (w.map GWord.t) part nth (by omega)
        rw [heldF_ok h, hps, toNat_map]
        rw [List.length_map] at hgood
        have hg2 := goodP_shift hgood
        refine ⟨?_, ?_⟩
        · have := fromB_put hw 0 fresh _ 0 0 hg2 (-1) (by omega)
          simpa using this
        · rw [putR_length _ _ _ hg2, List.length_map]
          have hne : ps ≠ [] := by
            rintro rfl
            exact h1 (by simpa using hps)
          have hpl := List.length_pos_iff.2 hne
          have hf : 0 < fresh.length := by omega
          have := Nat.mul_pos hpl hf
          omega

set_option maxRecDepth 100000 in
set_option maxHeartbeats 1600000 in
theorem unique_any (A B C : Option Addr) (c d f : Nat) (l old fresh : List ByteArray) (nth : Int) (w : World) (hl : Sl strEl w A l) (hx : Sl strEl w B old) (hy : Sl strEl w C fresh)
    (hn : l.length ≤ 1048576) (ho : old.length ≤ 1048576) (hm : fresh.length ≤ 1048576) :
    Calls Try.prog 5 #[.slice A l.length c, .slice B old.length d, .slice C fresh.length f, .int .i64 nth] w fun e w' => e = .returned (.bool true) ∧ Ext w w' := by
  obtain ⟨ws, hws⟩ : ∃ ws, ws = markF 3 0 0 l := ⟨_, rfl⟩
  have hwl : ws.length ≤ 1048576 := by rw [hws, markF_length]; exact hn
  have hwk : ∀ (k : Nat) (x : GWord), ws[k]? = some x → x.a = 3 ∧ x.k = k := by
    intro k x h
    rw [hws] at h
    obtain ⟨h1, h2⟩ := markF_get _ _ _ _ _ _ h
    exact ⟨h1, by rw [h2]; omega⟩
  obtain ⟨b, hb⟩ : ∃ b, b = fewB ws [old, fresh] := ⟨_, rfl⟩
  go_enter Try.func5, Try.ntmps5
  go_wp2_with fail
  refine (awake_any _).mono ?_
  rintro e w1 ⟨rfl, hext1⟩
  go_wp2_with fail
  refine (refMark_any A c l 3 0 0 _ (hl.ext hext1) hn (by omega) (by omega)).mono ?_
  rintro e w2 ⟨v, rfl, hown, hext2⟩
  rw [← hws] at hown
  clear hws
  obtain ⟨D, cw, rfl, hcw, hsw⟩ := Own.form hown
  have hx2 := (hx.ext hext1).ext hext2
  have hy2 := (hy.ext hext1).ext hext2
  have he2 := hext1.trans hext2
  clear hown hext1 hext2 hl hx hy
  go_wp2_with fail
  refine (few_any _ _ _ _ ws [(B, d, old), (C, f, fresh)] _ (hsw.ext ((Ext.refl _).alloc _)) (Sl.new slsEl rfl) ?_ (by omega) (by simp)).mono ?_
  · intro x hx'
    simp only [List.mem_cons, List.not_mem_nil, or_false] at hx'
    rcases hx' with rfl | rfl
    · exact ⟨hx2.ext ((Ext.refl _).alloc _), Nat.le_trans ho (by omega)⟩
    · exact ⟨hy2.ext ((Ext.refl _).alloc _), Nat.le_trans hm (by omega)⟩
  rintro e w3 ⟨rfl, rfl⟩
  simp only [List.map_cons, List.map_nil]
  rw [← hb]
  cases b
  · clear hb
    go_wp2
    go_ret
    exact ⟨rfl, he2.alloc _⟩
  · have hfew := hb.symm
    clear hb
    simp only [fewB, List.all_cons, List.all_nil, Bool.and_true, Bool.and_eq_true] at hfew
    have n1 := shortB_len hfew.2
    have n2 := briefB_len hfew.1.1
    have n3 := briefB_len hfew.1.2
    clear hfew
    by_cases h200 : (ws.length : Int) > 200
    · have e200 : decide ((ws.length : Int) > 200) = true := decide_eq_true h200
      clear h200
      go_wp2
      go_ret
      exact ⟨rfl, he2.alloc _⟩
    have e200 : decide ((ws.length : Int) > 200) = false := decide_eq_false h200
    clear h200
    obtain ⟨wz, hwz⟩ : ∃ wz, wz = w2.alloc (.cells (slsEl.flat [(B, d, old), (C, f, fresh)]).toArray slsEl.e) := ⟨_, rfl⟩
    have hez : Ext w2 wz := by rw [hwz]; exact (Ext.refl _).alloc _
    go_wp2_with fail
    refine (replace_any D B C cw d f ws old fresh nth 7 1 _ (hsw.ext ((Ext.refl _).alloc _)) (hx2.ext ((Ext.refl _).alloc _)) (hy2.ext ((Ext.refl _).alloc _)) (by omega) (by omega) (by omega)).mono ?_
    rintro e w3 ⟨A3, c3, rfl, hc3, hs3, hext3⟩
    have hsw3 := (hsw.ext ((Ext.refl _).alloc _)).ext hext3
    have hx3 := (hx2.ext ((Ext.refl _).alloc _)).ext hext3
    have hy3 := (hy2.ext ((Ext.refl _).alloc _)).ext hext3
    have he3 : Ext w w3 := (he2.alloc _).trans hext3
    clear hext3 hez hwz wz he2 hsw hx2 hy2
    go_wp2_with fail
    refine (insert_any D B C cw d f ws old fresh nth 7 1 _ hsw3 hx3 hy3 (by omega) (by omega) (by omega)).mono ?_
    rintro e w4 ⟨A4, c4, rfl, hc4, hs4, hext4⟩
    have hs3' := hs3.ext hext4
    have hsw4 := hsw3.ext hext4
    have he4 := he3.trans hext4
    have hlen3 : (repF ws old fresh nth 7 1).1.length ≤ 256 := repF_len ..
    have hlen4 : (insF ws old fresh nth 7 1).1.length ≤ 256 := insF_len ..
    have hr1 := @repF_once ws hwk old fresh nth
    have hr2 := @insF_once ws hwk old fresh nth
    generalize repF ws old fresh nth 7 1 = r at hs3' hlen3 hc3 hr1 ⊢
    generalize insF ws old fresh nth 7 1 = s at hs4 hlen4 hc4 hr2 ⊢
    clear hs3 hsw3 hx3 hy3 hwk hext4 he3
    have Hr1 := Lib.hid hr1
    have Hr2 := Lib.hid hr2
    clear hr1 hr2
    by_cases h1 : r.2 = 0
    · have e1 : (r.2 != (0 : Int)) = false := by simp [h1]
      have H1 := Lib.hid h1
      clear h1
      go_wp2_with fail
      refine (once_any _ _ _ _ r.1 ws _ hs3' hsw4 (by omega) (by omega)).mono ?_
      rintro e w5 ⟨rfl, m, rfl⟩
      rw [Hr1.out H1.out]
      by_cases h2 : s.2 = 0
      · have e2 : (s.2 != (0 : Int)) = false := by simp [h2]
        have H2 := Lib.hid h2
        clear h2
        go_wp2_with fail
        refine (once_any _ _ _ _ s.1 ws _ (hs4.ext ((Ext.refl _).drewN _)) (hsw4.ext ((Ext.refl _).drewN _)) (by omega) (by omega)).mono ?_
        rintro e w6 ⟨rfl, m', rfl⟩
        rw [(Hr2.out H2.out).1]
        go_wp2
        go_ret
        exact ⟨ret_bool (decide_eq_true (Hr2.out H2.out).2), he4.drewN _⟩
      · have e2 : (s.2 != (0 : Int)) = true := by simp [h2]
        clear h2
        go_wp2
        go_ret
        exact ⟨rfl, he4.drewN _⟩
    · have e1 : (r.2 != (0 : Int)) = true := by simp [h1]
      clear h1
      by_cases h2 : s.2 = 0
      · have e2 : (s.2 != (0 : Int)) = false := by simp [h2]
        have H2 := Lib.hid h2
        clear h2
        go_wp2_with fail
        refine (once_any _ _ _ _ s.1 ws _ hs4 hsw4 (by omega) (by omega)).mono ?_
        rintro e w6 ⟨rfl, m', rfl⟩
        rw [(Hr2.out H2.out).1]
        go_wp2
        go_ret
        exact ⟨ret_bool (decide_eq_true (Hr2.out H2.out).2), he4.drewN _⟩
      · have e2 : (s.2 != (0 : Int)) = true := by simp [h2]
        clear h2
        go_wp2
        go_ret
        exact ⟨rfl, he4⟩

end Go.Proofs.Ytkbmocgjbhmioaa
