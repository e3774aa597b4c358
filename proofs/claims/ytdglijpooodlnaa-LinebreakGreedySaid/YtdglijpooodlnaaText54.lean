/- Lines and Text: the walks. -/
import Derived.Test.YtdglijpooodlnaaCost54
namespace Go.Proofs.Ytdglijpooodlnaa
open Go.RowKit

/-- the texts of the lines -/
def linesF (l : List ByteArray) : Nat → List Int → List ByteArray
  | _, [] => []
  | a, e :: es => lineB l a e.toNat :: linesF l e.toNat es
theorem linesF_drop {l : List ByteArray} {es : List Int} {k : Nat} (hk : k < es.length) (a : Nat) : linesF l a (es.drop k) = lineB l a es[k].toNat :: linesF l es[k].toNat (es.drop (k + 1)) := by
  rw [List.drop_eq_getElem_cons hk, linesF]
theorem linesF_length (l : List ByteArray) : ∀ (es : List Int) (a : Nat), (linesF l a es).length = es.length
  | [], _ => rfl
  | e :: es, a => by rw [linesF, List.length_cons, linesF_length l es, List.length_cons]
def linesR (l : List ByteArray) (es : List Int) : List ByteArray := if endsB (l.length : Int) 0 es = true then linesF l 0 es else []
theorem lineB_same (l : List ByteArray) (a : Nat) : lineB l a a = ⟨#[]⟩ := by
  unfold lineB lineW
  rw [Nat.sub_self, List.take_zero, joinB_nil]
theorem lineB_succ {l : List ByteArray} {a k : Nat} (hk : k < l.length) (ha : a ≤ k) : lineB l a (k + 1) = if k > a then lineB l a k ++ spaceB ++ l[k] else l[k] := by
  have e : lineW l a (k + 1) = lineW l a k ++ [l[k]] := by
    unfold lineW
    rw [show k + 1 - a = (k - a) + 1 by omega, List.take_succ_eq_append_getElem (by simp; omega), List.getElem_drop]
    congr 3
    omega
  unfold lineB
  rw [e]
  split
  · rename_i h
    refine joinB_snoc _ _ _ fun h2 => ?_
    have := lineW_length (l := l) (a := a) (e := k) (by omega)
    rw [h2] at this
    simp at this
    omega
  · have : lineW l a k = [] := by unfold lineW; rw [show k - a = 0 by omega, List.take_zero]
    rw [this, List.nil_append, joinB_one]

theorem int_str {a b : ByteArray} (h : a = b) : Value.string a = .string b := by rw [h]
set_option maxRecDepth 100000 in
set_option maxHeartbeats 1600000 in
theorem lines_any (E A : Option Addr) (ec c : Nat) (l : List ByteArray) (es : List Int) (w : World) (hs : Sl strEl w A l) (hc : l.length ≤ c) (he : Sl intEl w E es) (hen : es.length ≤ 34359738368) (hb : briefP l 60) :
    Calls Try.prog 20 #[.slice E es.length ec, .slice A l.length c] w (RetOwn strEl w (linesR l es)) := by
  have hl := hb.1
  have Hs := Lib.hid hs
  have He := Lib.hid he
  have Hb := Lib.hid hb
  have ha := are_any E ec es A c l.length w he (by omega) (by omega)
  cases hq : endsB (l.length : Int) 0 es with
  | false =>
    rw [hq] at ha
    have Ha := Lib.hid ha
    have HR := Lib.hid (show linesR l es = [] by unfold linesR; rw [if_neg (by simp [hq])])
    clear hs he hb hq ha
    go_enter Try.func20, Try.ntmps20
    go_wp2_with fail
    refine (Ha.out).mono ?_
    rintro e w2 ⟨rfl, hx2⟩
    go_wp2
    go_ret
    exact ⟨_, rfl, by rw [HR.out]; exact Own.nil _, hx2⟩
  | true =>
    rw [hq] at ha
    have Ha := Lib.hid ha
    have HR := Lib.hid (show linesR l es = linesF l 0 es by unfold linesR; rw [if_pos hq])
    have Hq := Lib.hid hq
    clear hs he hb hq ha
    go_enter Try.func20, Try.ntmps20
    go_wp2_with fail
    refine (Ha.out).mono ?_
    rintro e w2 ⟨rfl, hx2⟩
    go_wp2
    go_loopw [5, 6, 8, 15] (fun vo va _ vk wr => ∃ (k a : Nat) (xs : List ByteArray), k ≤ es.length ∧ a ≤ l.length ∧ vk = .int .i64 (k : Nat) ∧ va = .int .i64 (a : Nat) ∧ xs.length = k ∧ Hid (Own strEl w.heap.size wr vo xs) ∧ Hid (endsB (l.length : Int) a (es.drop k) = true) ∧ Hid (linesF l 0 es = xs ++ linesF l a (es.drop k)) ∧ Ext w wr) (fun _ _ _ vk _ => es.length - (intOf vk).toNat)
    case atStart => exact ⟨0, 0, [], by omega, by omega, rfl, rfl, rfl, Lib.hid (Own.nil _), Lib.hid Hq.out, Lib.hid rfl, hx2⟩
    case round =>
      obtain ⟨k, a, xs, hk, ha, rfl, rfl, hxl, Hown, HE, HC, hext⟩ := hrel
      by_cases hlt : k < es.length
      · obtain ⟨b, off, rfl, hbl, u0⟩ := intAt (He.out.ext hext) hlt
        have hE := HE.out
        rw [List.drop_eq_getElem_cons hlt] at hE
        obtain ⟨hg1, hg2, hE2⟩ := endsB_step hE
        have hC := HC.out
        rw [linesF_drop hlt] at hC
        obtain ⟨g, hg⟩ : ∃ g : Nat, es[k] = (g : Int) := ⟨es[k].toNat, by omega⟩
        rw [hg] at u0 hg1 hg2 hE2 hC
        rw [Int.toNat_natCast] at hC
        have hag : a < g := by omega
        have hgn : g ≤ l.length := by omega
        have hle := lineB_le Hb.out hag hgn
        obtain ⟨z, hz⟩ : ∃ z, lineB l a g = z := ⟨_, rfl⟩
        rw [hz] at hle hC
        have Hz := Lib.hid hz
        have HC2 := Lib.hid hC
        have HE2 := Lib.hid hE2
        clear hg hE hC hE2 hz
        go_wp2_with (refine wpList_sl strEl rfl _ _ _ rfl rfl _ _ rfl rfl (Hs.out.ext hext) a g (by omega) (by omega) (by omega) hgn hc ?_; intro A1 ys c1 Hy hl1 hs1; have hyn : ys.length ≤ 60 := (by rw [Hy.out]; simp; omega))
        refine (join_any A1 c1 ys spaceB _ hs1 hl1 (by omega) (by rw [Hy.out]; show (lineB l a g).size ≤ _; rw [Hz.out]; omega)).mono ?_
        rw [show joinB spaceB ys = z by rw [Hy.out]; exact Hz.out]
        rintro e w3 ⟨rfl, hx3⟩
        have hx03 := hext.trans hx3
        have hown := Hown.out.ext hx3
        have Hown2 := Lib.hid hown
        clear hown Hown
        go_wp2_with (at_builtin; refine wpList_app strEl rfl _ _ rfl 1 rfl (Hown2.out.ext ((Ext.refl _).alloc _)) (ys := [z]) rfl (Sl.new strEl rfl) (by rw [hxl]; simp; omega) (by have := hx03.size; simp; omega) ?_; intro v' w5 hown5 hb5 hg5; have Hown5 := Lib.hid hown5; have hx5 := (hx03.alloc _).trans' hb5; clear hown5 hb5 hg5)
        go_roundw
        case rel => exact ⟨k + 1, g, xs ++ [z], by omega, hgn, by go_num, rfl, by simp [hxl], Hown5, HE2, Lib.hid (by rw [HC2.out, List.append_assoc]; rfl), hx5⟩
        case measure => simp [intOf] <;> omega
      · obtain rfl : k = es.length := by omega
        have hC := HC.out
        rw [List.drop_of_length_le (by omega), linesF, List.append_nil] at hC
        have HC2 := Lib.hid hC
        clear hC
        go_wp2
        go_ret
        exact ⟨_, rfl, by rw [HR.out, HC2.out]; exact Hown.out, hext⟩

set_option maxRecDepth 100000 in
set_option maxHeartbeats 1600000 in
theorem text_any (E A : Option Addr) (ec c : Nat) (l : List ByteArray) (es : List Int) (w : World) (hs : Sl strEl w A l) (he : Sl intEl w E es) (hen : es.length ≤ 34359738368) (hb : briefP l 60) :
    Calls Try.prog 21 #[.slice E es.length ec, .slice A l.length c] w (RetOwn strEl w (linesR l es)) := by
  have hl := hb.1
  have Hs := Lib.hid hs
  have He := Lib.hid he
  have Hb := Lib.hid hb
  have hx0 : Ext w (w.alloc (.cells #[] 9)) := (Ext.refl w).alloc _
  have ha := rises_any E ec es (l.length : Int) (w.alloc (.cells #[] 9)) (he.ext hx0) (by omega)
  cases hq : endsB (l.length : Int) 0 es with
  | false =>
    rw [hq] at ha
    have Ha := Lib.hid ha
    have HR := Lib.hid (show linesR l es = [] by unfold linesR; rw [if_neg (by simp [hq])])
    clear hs he hb hq ha
    go_enter Try.func21, Try.ntmps21
    go_wp2_with fail
    refine (Ha.out).mono ?_
    rintro e w2 ⟨rfl, hx2⟩
    go_wp2
    go_ret
    exact ⟨_, rfl, by rw [HR.out]; exact (Own.made strEl (Nat.le_refl _)).ext hx2, hx0.trans hx2⟩
  | true =>
    rw [hq] at ha
    have Ha := Lib.hid ha
    have HR := Lib.hid (show linesR l es = linesF l 0 es by unfold linesR; rw [if_pos hq])
    have Hq := Lib.hid hq
    clear hs he hb hq ha
    go_enter Try.func21, Try.ntmps21
    go_wp2_with fail
    refine (Ha.out).mono ?_
    rintro e w2 ⟨rfl, hx2⟩
    have hx02 := hx0.trans hx2
    have Ho := Lib.hid ((Own.made strEl (Nat.le_refl w.heap.size)).ext hx2)
    clear hx0 hx2
    go_wp2
    go_loopw [5, 6, 7, 8, 9] (fun vo va vk _ _ wr => ∃ (k a : Nat) (xs : List ByteArray), k ≤ es.length ∧ a ≤ l.length ∧ vk = .int .i64 (k : Nat) ∧ va = .int .i64 (a : Nat) ∧ xs.length = k ∧ Hid (Own strEl w.heap.size wr vo xs) ∧ Hid (endsB (l.length : Int) a (es.drop k) = true) ∧ Hid (linesF l 0 es = xs ++ linesF l a (es.drop k)) ∧ Ext w wr) (fun _ _ vk _ _ _ => es.length - (intOf vk).toNat)
    case atStart => exact ⟨0, 0, [], by omega, by omega, rfl, rfl, rfl, Ho, Lib.hid Hq.out, Lib.hid rfl, hx02⟩
    case round =>
      obtain ⟨k, a, xs, hk, ha, rfl, rfl, hxl, Hown, HE, HC, hext⟩ := hrel
      by_cases hlt : k < es.length
      · obtain ⟨b, off, rfl, hbl, u⟩ := intAt He.out hlt
        have u0 := (hext.cell (p := ⟨b, off + k, none⟩) hbl).trans u
        have hE := HE.out
        rw [List.drop_eq_getElem_cons hlt] at hE
        obtain ⟨hg1, hg2, hE2⟩ := endsB_step hE
        have hC := HC.out
        rw [linesF_drop hlt] at hC
        obtain ⟨g, hg⟩ : ∃ g : Nat, es[k] = (g : Int) := ⟨es[k].toNat, by omega⟩
        rw [hg] at u u0 hg1 hg2 hE2 hC
        rw [Int.toNat_natCast] at hC
        have hag : a < g := by omega
        have hgn : g ≤ l.length := by omega
        have HC2 := Lib.hid hC
        have HE2 := Lib.hid hE2
        clear hg hE hC hE2
        go_wp2
        go_loopw [8, 9] (fun vs vq wq => ∃ q : Nat, a ≤ q ∧ q ≤ g ∧ vq = .int .i64 (q : Nat) ∧ vs = .string (lineB l a q) ∧ wq = wr) (fun _ vq _ => g - (intOf vq).toNat)
        case atStart => exact ⟨a, Nat.le_refl _, by omega, rfl, by rw [lineB_same], rfl⟩
        case round =>
          obtain ⟨q, hq1, hq2, rfl, rfl, rfl⟩ := hrel
          by_cases hqg : q < g
          · have hqn : q < l.length := by omega
            obtain ⟨bs, os, rfl, hbs, us⟩ := strAt (Hs.out.ext hext) hqn
            have hsz := Hb.out.2 l[q] (List.getElem_mem hqn)
            have hls := lineB_succ hqn hq1
            have hzle : (lineB l a q).size ≤ 301 * q := by
              rcases Nat.lt_or_ge a q with h | h
              · exact lineB_le Hb.out h (by omega)
              · obtain rfl : a = q := by omega
                rw [lineB_same]
                exact Nat.zero_le _
            obtain ⟨x, hx⟩ : ∃ x, l[q] = x := ⟨_, rfl⟩
            obtain ⟨z, hz⟩ : ∃ z, lineB l a q = z := ⟨_, rfl⟩
            rw [hx, hz] at hls
            rw [hx] at us hsz
            rw [hz] at hzle ⊢
            have d1 : decide ((q : Int) < (g : Int)) = true := decide_eq_true (by omega)
            by_cases hqa : q > a
            · have d2 : decide ((q : Int) > (a : Int)) = true := decide_eq_true (by omega)
              rw [if_pos hqa] at hls
              have Hls := Lib.hid hls
              have hss : (z ++ (⟨#[32]⟩ : ByteArray)).size = z.size + 1 := by rw [ByteArray.size_append]; rfl
              clear hls hx hz
              go_wp2
              go_roundw
              case rel => exact ⟨q + 1, by omega, by omega, by go_num, by rw [Hls.out]; rfl, trivial⟩
              case measure => simp [intOf] <;> omega
            · have d2 : decide ((q : Int) > (a : Int)) = false := decide_eq_false (by omega)
              rw [if_neg hqa] at hls
              have hz0 : z = ⟨#[]⟩ := by rw [← hz, show q = a by omega, lineB_same]
              have Hls := Lib.hid hls
              subst hz0
              clear hls hx hz
              go_wp2
              go_roundw
              case rel => exact ⟨q + 1, by omega, by omega, by go_num, by rw [Hls.out]; exact int_str (bytesList_inj (by simp [ByteArray.data_append])), trivial⟩
              case measure => simp [intOf] <;> omega
          · obtain rfl : q = g := by omega
            have d1 : decide ((q : Int) < (q : Int)) = false := decide_eq_false (by omega)
            obtain ⟨z, hz⟩ : ∃ z, lineB l a q = z := ⟨_, rfl⟩
            rw [hz]
            have Hz := Lib.hid hz
            clear hz
            go_wp2_with (at_builtin; refine wpList_app strEl rfl _ _ rfl 1 rfl (Hown.out.ext ((Ext.refl _).alloc _)) (ys := [z]) rfl (Sl.new strEl rfl) (by rw [hxl]; simp; omega) (by have := hext.size; simp; omega) ?_; intro v' w5 hown5 hb5 hg5; have Hown5 := Lib.hid hown5; have hx5 := (hext.alloc _).trans' hb5; have u1 := (hx5.cell (p := ⟨b, off + k, none⟩) hbl).trans u; clear hown5 hb5 hg5)
            go_roundw
            case rel => exact ⟨k + 1, q, xs ++ [z], by omega, hgn, by go_num, rfl, by simp [hxl], Hown5, HE2, Lib.hid (by rw [HC2.out, List.append_assoc, ← Hz.out]; rfl), hx5⟩
            case measure => simp [intOf] <;> omega
      · obtain rfl : k = es.length := by omega
        have hC := HC.out
        rw [List.drop_of_length_le (by omega), linesF, List.append_nil] at hC
        have HC2 := Lib.hid hC
        clear hC
        go_wp2
        go_ret
        exact ⟨_, rfl, by rw [HR.out, HC2.out]; exact Hown.out, hext⟩

end Go.Proofs.Ytdglijpooodlnaa
