/- Justify: the walk. -/
import Derived.Test.YtdglijpooodlnaaBld54
import Derived.Laws.IdiomStrings
namespace Go.Proofs.Ytdglijpooodlnaa
open Go.RowKit

/-- the bytes of a justified line from the gap j on: M spaces more in G gaps -/
def fillF (M G : Nat) : Nat → List UInt8 → List UInt8
  | _, [] => []
  | j, c :: r => if c = 32 then c :: (List.replicate (M / G + (if j < M % G then 1 else 0)) 32 ++ fillF M G (j + 1) r) else c :: fillF M G j r
def justF (W : Int) (s : ByteArray) : ByteArray :=
  if s.data.toList.count 32 = 0 ∨ W < (s.size : Int) ∨ W < 1 ∨ W > 200 then s else ⟨(fillF (W - s.size).toNat (s.data.toList.count 32) 0 s.data.toList).toArray⟩
theorem justF_same {W : Int} {s : ByteArray} (h : s.data.toList.count 32 = 0 ∨ W < (s.size : Int) ∨ W < 1 ∨ W > 200) : justF W s = s := by unfold justF; rw [if_pos h]
theorem justF_fill {W : Int} {s : ByteArray} {M : Nat} (h : ¬ (s.data.toList.count 32 = 0 ∨ W < (s.size : Int) ∨ W < 1 ∨ W > 200)) (hM : (M : Int) = W - s.size) : justF W s = ⟨(fillF M (s.data.toList.count 32) 0 s.data.toList).toArray⟩ := by
  unfold justF
  rw [if_neg h, show (W - (s.size : Int)).toNat = M by omega]
theorem fillF_drop {M G j k : Nat} {l : List UInt8} (hk : k < l.length) : fillF M G j (l.drop k) = if l[k] = 32 then l[k] :: (List.replicate (M / G + (if j < M % G then 1 else 0)) 32 ++ fillF M G (j + 1) (l.drop (k + 1))) else l[k] :: fillF M G j (l.drop (k + 1)) := by
  rw [List.drop_eq_getElem_cons hk, fillF]
/-- the spaces for the next gap -/
theorem ceil_step {M G j g f : Nat} (hg : 1 ≤ g) (hjg : j + g = G) (hf : f = g * (M / G) + (M % G - j)) :
    (f + g - 1) / g = M / G + (if j < M % G then 1 else 0) ∧ f - (M / G + (if j < M % G then 1 else 0)) = (g - 1) * (M / G) + (M % G - (j + 1)) ∧ M / G + (if j < M % G then 1 else 0) ≤ f := by
  have hr := Nat.mod_lt M (show 0 < G by omega)
  obtain ⟨q, hq⟩ : ∃ q, M / G = q := ⟨_, rfl⟩
  obtain ⟨r, hr0⟩ : ∃ r, M % G = r := ⟨_, rfl⟩
  rw [hq, hr0] at hf ⊢
  rw [hr0] at hr
  obtain ⟨h, rfl⟩ : ∃ h, g = h + 1 := ⟨g - 1, by omega⟩
  have e0 : (h + 1) * q = h * q + q := Nat.succ_mul h q
  have e1 : f + (h + 1) - 1 = (h + 1) * q + ((r - j) + h) := by omega
  have e2 : h + 1 - 1 = h := rfl
  rw [e1, Nat.mul_add_div (by omega), e2]
  by_cases hj : j < r
  · rw [if_pos hj]
    have e3 : (r - j + h) / (h + 1) = 1 := Nat.div_eq_of_lt_le (by omega) (by omega)
    rw [e3]
    omega
  · rw [if_neg hj]
    have e3 : (r - j + h) / (h + 1) = 0 := Nat.div_eq_of_lt (by omega)
    rw [e3]
    omega
theorem IsB.ext {B b : Nat} {bs : List Value} {w w' : World} (h : Lib.IsBuilder 56 5 B b bs w) (hx : Ext w w') : Lib.IsBuilder 56 5 B b bs w' := by
  have hk : ∀ p, Lib.BuilderAt 56 5 B b p bs w → Lib.BuilderAt 56 5 B b p bs w' := fun p ⟨hB, v, hb, hown, hne⟩ =>
    ⟨hB, v, (hx.block (lt_of_block hb)).trans hb, hown.kept (row := some b) ⟨hx.os, hx.tape, hx.output, hx.size, fun k hk _ => hx.block hk⟩ (Or.inr hne), hne⟩
  exact h.imp (hk _) (hk _)
theorem byteCells_snoc (o : List UInt8) (x : UInt8) : Lib.byteCells o ++ [Value.int .u8 (x.toNat : Int)] = Lib.byteCells (o ++ [x]) := by simp [Lib.byteCells]
theorem byteCells_str (o : List UInt8) (l : List UInt8) : Lib.byteCells o ++ Lib.strCells ⟨l.toArray⟩ = Lib.byteCells (o ++ l) := by simp [Lib.byteCells, Lib.strCells]
theorem bytesRow_get {s : ByteArray} {cap k : Nat} (hk : k < s.data.toList.length) : (bytesRow s cap)[k]? = some (.int .u8 (s.data.toList[k].toNat : Int)) := by
  unfold bytesRow
  rw [Array.getElem?_append_left (by simpa using hk)]
  simp at hk
  simp [hk]

set_option maxRecDepth 100000 in
set_option maxHeartbeats 3200000 in
theorem justify_any (s : ByteArray) (W : Int) (w : World) (hs : s.size ≤ 1048576) (hW : -9223372036854775808 ≤ W ∧ W ≤ 9223372036854775807) :
    Calls Try.prog 22 #[.int .i64 W, .string s] w fun e w' => e = .returned (.string (justF W s)) ∧ Ext w w' := by
  have hcn := Try.strings_Count_one s 32 w
  obtain ⟨bs, hbs⟩ : ∃ bs, s.data.toList = bs := ⟨_, rfl⟩
  have hbl : bs.length = s.size := by rw [← hbs]; exact Array.length_toList
  obtain ⟨G, hG⟩ : ∃ G, bs.count 32 = G := ⟨_, rfl⟩
  have hGl : G ≤ bs.length := by rw [← hG]; exact List.count_le_length
  have hcn2 : Calls Try.prog 36 #[.string s, .string ⟨#[32]⟩] w fun e w' => e = .returned (.int .i64 (G : Nat)) ∧ w' = w := by
    rw [← hG, ← hbs]; exact hcn
  have Hcn := Lib.hid hcn2
  by_cases hsame : s.data.toList.count 32 = 0 ∨ W < (s.size : Int) ∨ W < 1 ∨ W > 200
  · rw [justF_same hsame]
    rw [hbs, hG] at hsame
    clear hcn hcn2 hG hbs
    by_cases h1 : W < 1
    · have d1 : decide (W < 1) = true := decide_eq_true h1
      go_enter Try.func22, Try.ntmps22
      go_wp2_with fail
      refine (Hcn.out).mono ?_
      rintro e w1 ⟨rfl, rfl⟩
      go_wp2
      go_ret
      exact ⟨rfl, Ext.refl _⟩
    · have d1 : decide (W < 1) = false := decide_eq_false h1
      by_cases h2 : W > 200
      · have d2 : decide (W > 200) = true := decide_eq_true h2
        go_enter Try.func22, Try.ntmps22
        go_wp2_with fail
        refine (Hcn.out).mono ?_
        rintro e w1 ⟨rfl, rfl⟩
        go_wp2
        go_ret
        exact ⟨rfl, Ext.refl _⟩
      · have d2 : decide (W > 200) = false := decide_eq_false h2
        by_cases h3 : G = 0
        · subst h3
          go_enter Try.func22, Try.ntmps22
          go_wp2_with fail
          refine (Hcn.out).mono ?_
          rintro e w1 ⟨rfl, rfl⟩
          go_wp2
          go_ret
          exact ⟨rfl, Ext.refl _⟩
        · have d3 : ((G : Int) == 0) = false := by simp; omega
          have h4 : W < (s.size : Int) := by omega
          have d4 : decide (W - (s.size : Int) < 0) = true := decide_eq_true (by omega)
          go_enter Try.func22, Try.ntmps22
          go_wp2_with fail
          refine (Hcn.out).mono ?_
          rintro e w1 ⟨rfl, rfl⟩
          go_wp2
          go_ret
          exact ⟨rfl, Ext.refl _⟩
  · obtain ⟨M, hM⟩ : ∃ M : Nat, (M : Int) = W - s.size := ⟨(W - s.size).toNat, by omega⟩
    rw [justF_fill hsame hM]
    rw [hbs, hG] at hsame ⊢
    clear hcn hcn2
    have hWM : W = (s.size : Int) + M := by omega
    have d1 : decide (W < 1) = false := decide_eq_false (by omega)
    have d2 : decide (W > 200) = false := decide_eq_false (by omega)
    have d3 : ((G : Int) == 0) = false := by simp; omega
    have d4 : decide (W - (s.size : Int) < 0) = false := decide_eq_false (by omega)
    have hG1 : 1 ≤ G := by omega
    have hW2 : s.size + M ≤ 200 := by omega
    have hq : (M / G) * G + M % G = M := by rw [Nat.mul_comm]; exact Nat.div_add_mod M G
    obtain ⟨cap, hcap⟩ : ∃ cap, grownCap (w.alloc (.cells #[.pointer none, .slice none 0 0] 56)) s.size 0 5 = cap := ⟨_, rfl⟩
    have hconv := run_bytes_of_string (P := Try.prog) (w.alloc (.cells #[.pointer none, .slice none 0 0] 56)) 9 54 5 s Try.underlying9 Try.underlying54 Try.underlying5
    rw [hcap] at hconv
    have hz1 : (w.alloc (.cells #[.pointer none, .slice none 0 0] 56)).heap.size = w.heap.size + 1 := by simp
    rw [hz1] at hconv
    have hget : Hid (∀ k (h : k < bs.length), (bytesRow s cap)[k]? = some (.int .u8 (bs[k].toNat : Int))) := Lib.hid (by subst hbs; exact fun k h => bytesRow_get h)
    obtain ⟨row, hrow⟩ : ∃ row, bytesRow s cap = row := ⟨_, rfl⟩
    rw [hrow] at hconv hget
    have hI := IsB.ext (Lib.fresh_isBuilder 56 5 w) ((Ext.refl _).alloc (.cells row 5 (row.size, row.size + 1)))
    have hB2 : (((w.alloc (.cells #[.pointer none, .slice none 0 0] 56)).alloc (.cells row 5 (row.size, row.size + 1))).drew).heap[w.heap.size + 1]? = some (.cells row 5 (row.size, row.size + 1)) := by
      rw [← hz1]
      exact heap_alloc_new _ _
    have HI : Hid (Lib.IsBuilder 56 5 w.heap.size w.heap.size (Lib.byteCells []) ((w.alloc (.cells #[.pointer none, .slice none 0 0] 56)).alloc (.cells row 5 (row.size, row.size + 1))).drew) := Lib.hid hI
    have HB := Lib.hid hB2
    have HG := Lib.hid hG
    have Hsame := Lib.hid hsame
    clear hI hB2 hrow hcap hbs hG hsame hM
    go_enter Try.func22, Try.ntmps22
    go_wp2_with fail
    refine (Hcn.out).mono ?_
    rintro e w1 ⟨rfl, rfl⟩
    go_wp2
    go_loopw [5, 6, 9, 10, 35] (fun vg vf _ _ vk wr => ∃ (k j g f : Nat) (o : List UInt8), k ≤ bs.length ∧ j + g = G ∧ vg = .int .i64 (g : Nat) ∧ vf = .int .i64 (f : Nat) ∧ vk = .int .i64 (k : Nat) ∧ Hid ((bs.drop k).count 32 = g) ∧ Hid (f = g * (M / G) + (M % G - j)) ∧ o.length + f = k + M ∧
      Hid (fillF M G 0 bs = o ++ fillF M G j (bs.drop k)) ∧ Hid (Lib.IsBuilder 56 5 w1.heap.size w1.heap.size (Lib.byteCells o) wr) ∧ Hid (wr.heap[w1.heap.size + 1]? = some (.cells row 5 (row.size, row.size + 1))) ∧ Ext w1 wr) (fun _ _ _ _ vk _ => bs.length - (intOf vk).toNat)
    case atStart =>
      exact ⟨0, 0, G, M, [], by omega, by omega, rfl, int_eq_of (by omega), rfl, HG, Lib.hid (by rw [Nat.sub_zero, Nat.mul_comm]; exact hq.symm), by simp, Lib.hid rfl, HI, HB, (((Ext.refl w1).alloc _).alloc _).drew⟩
    case round =>
      obtain ⟨k, j, g, f, o, hk, hjg, rfl, rfl, rfl, Hcnt, Hf, hof, HF, HI, HB, hext⟩ := hrel
      by_cases hlt : k < bs.length
      · have hgk := hget.out k hlt
        have hcell : wr.cell? ⟨w1.heap.size + 1, k, none⟩ = some (.int .u8 (bs[k].toNat : Int)) := by
          rw [Lib.cell_of_heap HB.out]; exact hgk
        have hF := HF.out
        rw [fillF_drop hlt] at hF
        have hcn := Hcnt.out
        rw [List.drop_eq_getElem_cons hlt, List.count_cons] at hcn
        obtain ⟨x, hx⟩ : ∃ x, bs[k] = x := ⟨_, rfl⟩
        rw [hx] at hF hcell hcn
        have hF2 := Lib.hid hF
        have Hcn2 := Lib.hid hcn
        have e1 : decide ((k : Int) < (s.size : Int)) = true := decide_eq_true (by omega)
        have b1 : (k : Int) < (s.size : Int) := by omega
        have hwb := writeByte w1.heap.size w1.heap.size (Lib.byteCells o) (x.toNat : Int) wr HI.out (by rw [Lib.byteCells_length]; omega) hext.size
        rw [byteCells_snoc] at hwb
        have Hwb := Lib.hid hwb
        clear hx hF hcn hgk hwb
        by_cases hsp : x = 32
        · subst hsp
          have e0 : (((32 : UInt8).toNat : Nat) : Int) = 32 := rfl
          have hwb2 := Hwb.out
          rw [e0] at hwb2 hcell
          have Hwb2 := Lib.hid hwb2
          have hcn2 := Hcn2.out
          rw [if_pos (by decide)] at hcn2
          obtain ⟨g', rfl⟩ : ∃ g', g = g' + 1 := ⟨g - 1, by omega⟩
          have Hc3 := Lib.hid (show (bs.drop (k + 1)).count 32 = g' by omega)
          obtain ⟨p1, p2, p3⟩ := ceil_step (M := M) (by omega) hjg Hf.out
          have hF3 := hF2.out
          rw [if_pos rfl] at hF3
          obtain ⟨nn, hnn⟩ : ∃ nn, M / G + (if j < M % G then 1 else 0) = nn := ⟨_, rfl⟩
          rw [hnn] at p1 p2 p3 hF3
          have Hnx := Lib.hid (show fillF M G 0 bs = (o ++ [32] ++ List.replicate nn 32) ++ fillF M G (j + 1) (bs.drop (k + 1)) by rw [hF3]; simp)
          have Hf3 := Lib.hid (show f - nn = g' * (M / G) + (M % G - (j + 1)) from p2)
          have hd1 : ((f : Int) + ((g' + 1 : Nat) : Int) - 1) / ((g' + 1 : Nat) : Int) = (nn : Int) := by
            rw [← p1]
            rw [Int.natCast_ediv]
            congr 1
            omega
          have hd2 : ((f : Int) + ((g' : Int) + 1) - 1) / ((g' : Int) + 1) = (nn : Int) := hd1
          have hrep := Try.strings_Repeat ⟨#[32]⟩ nn
          have hrr : Lib.repeatL [32] nn = List.replicate nn 32 := by
            have := Lib.repeatL_replicate (32 : UInt8) 1 nn
            simpa using this
          have Hrep : Hid (∀ w', Calls Try.prog 39 #[.string ⟨#[32]⟩, .int .i64 (nn : Nat)] w' fun e w'' => e = .returned (.string ⟨(List.replicate nn 32).toArray⟩) ∧ Ext w' w'') := Lib.hid fun w' => by
            have := hrep w' (by omega) (by show 1 * nn ≤ _; omega)
            rw [← hrr]
            exact this
          have hnnf : nn ≤ 200 := by omega
          clear hwb2 hcn2 p1 p2 hnn hF3 hrep hrr Hwb
          go_wp2_with fail
          refine (Hwb2.out).mono ?_
          rintro e w3 ⟨rfl, h1, h2, h3⟩
          have HI3 : Hid (Lib.IsBuilder 56 5 w1.heap.size w1.heap.size (Lib.byteCells (o ++ [32])) w3) := Lib.hid (.inr h1)
          have HB3 := Lib.hid (h3 _ _ _ HB.out (by simp))
          have hx3 := hext.trans' h2
          clear h1 h2 h3
          go_wp2_with fail
          refine (Hrep.out _).mono ?_
          rintro e w4 ⟨rfl, hx4⟩
          have HI4 := Lib.hid (IsB.ext HI3.out hx4)
          have HB4 := Lib.hid ((hx4.block (lt_of_block HB3.out)).trans HB3.out)
          have hx34 := hx3.trans hx4
          have hws := writeString w1.heap.size w1.heap.size (Lib.byteCells (o ++ [32])) ⟨(List.replicate nn 32).toArray⟩ w4 HI4.out (by
            have : (⟨(List.replicate nn 32).toArray⟩ : ByteArray).size = nn := by show (List.replicate nn (32 : UInt8)).toArray.size = nn; simp
            rw [Lib.byteCells_length, this]
            simp
            omega) hx34.size
          rw [byteCells_str] at hws
          have Hws := Lib.hid hws
          clear hws
          go_wp2_with fail
          refine (Hws.out).mono ?_
          rintro e w5 ⟨rfl, h1, h2, h3⟩
          have HI5 : Hid (Lib.IsBuilder 56 5 w1.heap.size w1.heap.size (Lib.byteCells (o ++ [32] ++ List.replicate nn 32)) w5) := Lib.hid (.inr h1)
          have HB5 := Lib.hid (h3 _ _ _ HB4.out (by simp))
          have hx5 := hx34.trans' h2
          clear h1 h2 h3
          go_wp2
          go_roundw
          case rel => exact ⟨k + 1, j + 1, g', f - nn, o ++ [32] ++ List.replicate nn 32, by omega, by omega, int_eq_of (by omega), int_eq_of (by omega), by go_num, Hc3, Hf3, by simp; omega, Hnx, HI5, HB5, hx5⟩
          case measure => simp [intOf] <;> omega
        · have e2 : ((x.toNat : Int) != 32) = true := by
            simp only [bne_iff_ne, ne_eq]
            intro h
            exact hsp (UInt8.toNat_inj.1 (by show x.toNat = 32; omega))
          have Hnx := Lib.hid (show fillF M G 0 bs = (o ++ [x]) ++ fillF M G j (bs.drop (k + 1)) by rw [hF2.out, if_neg hsp, List.append_assoc]; rfl)
          have Hc3 := Lib.hid (show (bs.drop (k + 1)).count 32 = g by have := Hcn2.out; rw [if_neg (by simpa using hsp)] at this; exact this)
          go_wp2_with fail
          refine (Hwb.out).mono ?_
          rintro e w3 ⟨rfl, h1, h2, h3⟩
          have HI3 : Hid (Lib.IsBuilder 56 5 w1.heap.size w1.heap.size (Lib.byteCells (o ++ [x])) w3) := Lib.hid (.inr h1)
          have HB3 := Lib.hid (h3 _ _ _ HB.out (by simp))
          have hx3 := hext.trans' h2 
          clear h1 h2 h3
          go_wp2
          go_roundw
          case rel => exact ⟨k + 1, j, g, f, o ++ [x], by omega, hjg, rfl, rfl, by go_num, Hc3, Hf, by simp; omega, Hnx, HI3, HB3, hx3⟩
          case measure => simp [intOf] <;> omega
      · obtain rfl : k = bs.length := by omega
        have hF := HF.out
        rw [List.drop_of_length_le (by omega), fillF, List.append_nil] at hF
        have HF2 := Lib.hid hF
        have Hst := Lib.hid (Try.Builder_String_any w1.heap.size w1.heap.size o wr HI.out hext.size)
        have e1 : decide ((bs.length : Int) < (s.size : Int)) = false := decide_eq_false (by omega)
        clear hF
        go_wp2_with fail
        refine (Hst.out).mono ?_
        rintro e w3 ⟨rfl, hb3⟩
        go_wp2
        go_ret
        exact ⟨by rw [HF2.out]; rfl, hext.trans' hb3⟩

end Go.Proofs.Ytdglijpooodlnaa
