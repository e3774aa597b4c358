/- Mark of package wording and of its reference: strings as words, marked from an index on. -/
import Derived.Test.YtkbmocgjbhmioaaLaws
namespace Go.Proofs.Ytkbmocgjbhmioaa
open Go.RowKit

/-- words with marks act, item, from, from + 1 and so on -/
def markF (act item : Int) : Int → List ByteArray → List GWord
  | _, [] => []
  | from_, s :: l => ⟨s, act, item, from_⟩ :: markF act item (from_ + 1) l
theorem markF_length (act item : Int) : ∀ (from_ : Int) (l : List ByteArray), (markF act item from_ l).length = l.length
  | _, [] => rfl
  | f, s :: l => by simp [markF, markF_length act item (f + 1) l]
theorem markF_snoc (act item : Int) : ∀ (from_ : Int) (l : List ByteArray) (s : ByteArray), markF act item from_ (l ++ [s]) = markF act item from_ l ++ [⟨s, act, item, from_ + l.length⟩]
  | f, [], s => by simp [markF]
  | f, x :: l, s => by
    simp only [List.cons_append, markF, markF_snoc act item (f + 1) l s, List.length_cons]
    congr 4
    omega
theorem markF_take (act item from_ : Int) (l : List ByteArray) (k : Nat) (hk : k < l.length) : markF act item from_ (l.take (k + 1)) = markF act item from_ (l.take k) ++ [⟨l[k], act, item, from_ + k⟩] := by
  rw [List.take_succ_eq_append_getElem hk, markF_snoc, List.length_take, Nat.min_eq_left (by omega)]

set_option maxRecDepth 100000 in
set_option maxHeartbeats 400000 in
theorem mark_any (A : Option Addr) (c : Nat) (l : List ByteArray) (act item from_ : Int) (w : World) (hs : Sl strEl w A l) (hn : l.length ≤ 1048576) (h1 : -2199023255552 ≤ from_) (h2 : from_ ≤ 2199023255552) :
    Calls Try.prog 29 #[.slice A l.length c, .int .i64 act, .int .i64 item, .int .i64 from_] w fun e w' => ∃ v, e = .returned v ∧ Own wordEl w.heap.size w' v (markF act item from_ l) ∧ Ext w w' := by
  go_enter Try.func29, Try.ntmps29
  go_wp2
  go_loopw [9, 14] (fun out i wr => ∃ k : Nat, k ≤ l.length ∧ i = .int .i64 k ∧ Own wordEl w.heap.size wr out (markF act item from_ (l.take k)) ∧ Ext w wr) (fun _ i _ => l.length - (intOf i).toNat)
  case atStart => exact ⟨0, Nat.zero_le _, rfl, Own.nil _, Ext.refl _⟩
  case round =>
    obtain ⟨k, hk, rfl, hown, hext⟩ := hrel
    by_cases hlt : k < l.length
    · obtain ⟨b, off, rfl, hb, hc⟩ := strAt hs hlt
      have hcr := (hext.cell (p := ⟨b, off + k, none⟩) hb).trans hc
      have hsz := hext.size
      obtain ⟨s, hsk⟩ : ∃ s, l[k] = s := ⟨_, rfl⟩
      rw [hsk] at hcr
      have Hs := Lib.hid hsk
      clear hc hsk
      have hc1 : (markF act item from_ (l.take k)).length + 1 ≤ 68719476736 := by rw [markF_length, List.length_take]; omega
      go_wp2_with (at_builtin; refine wpList_app wordEl rfl _ _ rfl 1 rfl (hown.ext (Ext.alloc (Ext.refl _) _)) (ys := [⟨s, act, item, from_ + k⟩]) rfl (Sl.new wordEl rfl) hc1 (by simp; omega) ?_; intro v' w1 hown' hb1 hg1)
      have hext' : Ext w w1 := (hext.alloc _).trans' hb1
      go_wp2
      go_roundw
      case rel => exact ⟨k + 1, by omega, by go_num, by rw [markF_take _ _ _ _ _ hlt, Hs.out]; exact hown', hext'⟩
      case measure => simp [intOf]; omega
    · obtain rfl : k = l.length := by omega
      rw [List.take_length] at hown
      go_wp2
      go_ret
      exact ⟨_, rfl, hown, hext⟩
end Go.Proofs.Ytkbmocgjbhmioaa
