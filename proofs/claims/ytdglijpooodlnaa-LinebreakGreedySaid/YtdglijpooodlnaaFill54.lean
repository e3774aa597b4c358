/- Fill, pressed, gap: the walks. -/
import Derived.Test.YtdglijpooodlnaaJust54
namespace Go.Proofs.Ytdglijpooodlnaa
open Go.RowKit

theorem count_take_succ {l : List UInt8} {k : Nat} (hk : k < l.length) (x : UInt8) : (l.take (k + 1)).count x = (l.take k).count x + if l[k] = x then 1 else 0 := by
  rw [List.take_succ_eq_append_getElem hk, List.count_append, List.count_cons, List.count_nil]
  simp
def bstrF (o : List UInt8) : ByteArray := ⟨o.toArray⟩
theorem bstrF_size (o : List UInt8) : (bstrF o).size = o.length := by show o.toArray.size = _; simp
theorem byte_at {s : ByteArray} {bs : List UInt8} (h : s.data.toList = bs) {k : Nat} (hk : k < s.size) (hb : k < bs.length) : s[k] = bs[k] := by subst h; rfl
theorem byte_cut {s : ByteArray} {bs : List UInt8} (h : s.data.toList = bs) {k : Nat} (hb : k < bs.length) : s.extract k (k + 1) = ⟨#[bs[k]]⟩ := by
  refine bytesList_inj ?_
  subst h
  simp only [ByteArray.data_extract, Array.toList_extract]
  rw [List.extract_eq_take_drop, show k + 1 - k = 1 by omega, List.drop_eq_getElem_cons hb]
  rfl
theorem byte_ne {x : UInt8} (h : ¬ x = 32) : ((x.toNat : Int) == 32) = false := by
  simp only [beq_eq_false_iff_ne, ne_eq]
  intro h2
  exact h (UInt8.toNat_inj.1 (by show x.toNat = 32; omega))
set_option maxRecDepth 100000 in
set_option maxHeartbeats 3200000 in
theorem fill_any (s : ByteArray) (W : Int) (w : World) (hs : s.size ≤ 1048576) (hW : -9223372036854775808 ≤ W ∧ W ≤ 9223372036854775807) :
    Calls Try.prog 23 #[.int .i64 W, .string s] w fun e w' => e = .returned (.string (justF W s)) ∧ w' = w := by
  obtain ⟨bs, hbs⟩ : ∃ bs, s.data.toList = bs := ⟨_, rfl⟩
  have hbl : bs.length = s.size := by rw [← hbs]; exact Array.length_toList
  obtain ⟨G, hG⟩ : ∃ G, bs.count 32 = G := ⟨_, rfl⟩
  have hGl : G ≤ bs.length := by rw [← hG]; exact List.count_le_length
  have HG := Lib.hid hG
  have Hbs := Lib.hid hbs
  have hJ : Hid ((G = 0 ∨ W < (s.size : Int) ∨ W < 1 ∨ W > 200) → justF W s = s) := Lib.hid fun h => justF_same (by rw [hbs, hG]; exact h)
  have hJ2 : Hid (∀ M : Nat, ¬ (G = 0 ∨ W < (s.size : Int) ∨ W < 1 ∨ W > 200) → (M : Int) = W - s.size → justF W s = ⟨(fillF M G 0 bs).toArray⟩) := Lib.hid fun M h hM => by
    rw [← hG, ← hbs] at h ⊢
    exact justF_fill h hM
  clear hbs hG
  go_enter Try.func23, Try.ntmps23
  go_wp2
  go_loopw [5, 6] (fun vg vk wr => ∃ k g : Nat, k ≤ bs.length ∧ g ≤ k ∧ vg = .int .i64 (g : Nat) ∧ vk = .int .i64 (k : Nat) ∧ Hid ((bs.take k).count 32 = g) ∧ wr = w) (fun _ vk _ => bs.length - (intOf vk).toNat)
  case atStart => exact ⟨0, 0, by omega, by omega, rfl, rfl, Lib.hid rfl, rfl⟩
  case round =>
    obtain ⟨k, g, hk, hgk, rfl, rfl, Hc, rfl⟩ := hrel
    by_cases hlt : k < bs.length
    · have hks : k < s.size := by omega
      obtain ⟨x, hbx⟩ : ∃ x, bs[k] = x := ⟨_, rfl⟩
      have hsx : s[k] = x := by rw [← hbx]; exact byte_at Hbs.out hks hlt
      have e1 : decide ((k : Int) < (s.size : Int)) = true := decide_eq_true (by omega)
      by_cases hsp : x = 32
      · skip
        have hc2 : (bs.take (k + 1)).count 32 = g + 1 := by rw [count_take_succ hlt, hbx, if_pos hsp, Hc.out]
        have Hc2 := Lib.hid hc2
        have e2 : ((x.toNat : Int) == 32) = true := by rw [hsp]; rfl
        clear hc2 hbx hsp
        go_wp2
        go_roundw
        case rel => exact ⟨k + 1, g + 1, by omega, by omega, by go_num, by go_num, Hc2, trivial⟩
        case measure => simp [intOf] <;> omega
      · skip
        have hc2 : (bs.take (k + 1)).count 32 = g := by rw [count_take_succ hlt, hbx, if_neg hsp, Nat.add_zero, Hc.out]
        have Hc2 := Lib.hid hc2
        have e2 : ((x.toNat : Int) == 32) = false := byte_ne hsp
        clear hc2 hbx hsp
        go_wp2
        go_roundw
        case rel => exact ⟨k + 1, g, by omega, by omega, rfl, by go_num, Hc2, trivial⟩
        case measure => simp [intOf] <;> omega
    · obtain rfl : k = bs.length := by omega
      have e1 : decide ((bs.length : Int) < (s.size : Int)) = false := decide_eq_false (by omega)
      have hgG : G = g := by rw [← Hc.out, ← HG.out, List.take_length]
      subst hgG
      by_cases h3 : G = 0
      · subst h3
        have HJ := Lib.hid (hJ.out (.inl rfl))
        go_wp2
        go_ret
        exact ⟨by rw [HJ.out]; rfl, rfl⟩
      · have d3 : ((G : Int) == 0) = false := by simp; omega
        by_cases h4 : W < (s.size : Int)
        · have HJ := Lib.hid (hJ.out (.inr (.inl h4)))
          have d4 : decide ((s.size : Int) > W) = true := decide_eq_true (by omega)
          go_wp2
          go_ret
          exact ⟨by rw [HJ.out]; rfl, rfl⟩
        · have d4 : decide ((s.size : Int) > W) = false := decide_eq_false (by omega)
          by_cases h1 : W < 1
          · have HJ := Lib.hid (hJ.out (.inr (.inr (.inl h1))))
            have d1 : decide (W < 1) = true := decide_eq_true h1
            go_wp2
            go_ret
            exact ⟨by rw [HJ.out]; rfl, rfl⟩
          · have d1 : decide (W < 1) = false := decide_eq_false h1
            by_cases h2 : W > 200
            · have HJ := Lib.hid (hJ.out (.inr (.inr (.inr h2))))
              have d2 : decide (W > 200) = true := decide_eq_true h2
              go_wp2
              go_ret
              exact ⟨by rw [HJ.out]; rfl, rfl⟩
            · have d2 : decide (W > 200) = false := decide_eq_false h2
              obtain ⟨M, hM⟩ : ∃ M : Nat, (M : Int) = W - s.size := ⟨(W - s.size).toNat, by omega⟩
              have HJ := Lib.hid (hJ2.out M (by omega) hM)
              have hM2 : W - (s.size : Int) = (M : Int) := hM.symm
              obtain ⟨q, hq⟩ : ∃ q, M / G = q := ⟨_, rfl⟩
              obtain ⟨r, hr⟩ : ∃ r, M % G = r := ⟨_, rfl⟩
              have hq1 : (M : Int) / (G : Int) = (q : Int) := by rw [← hq]; exact (Int.natCast_ediv M G).symm
              have hq2 : (M : Int).tdiv (G : Int) = (q : Int) := by rw [Int.tdiv_eq_ediv_of_nonneg (by omega)]; exact hq1
              have hr1 : (M : Int) % (G : Int) = (r : Int) := by rw [← hr]; exact (Int.natCast_emod M G).symm
              have hr2 : (M : Int).tmod (G : Int) = (r : Int) := by rw [Int.tmod_eq_emod_of_nonneg (by omega)]; exact hr1
              have hqM : q ≤ M := by rw [← hq]; exact Nat.div_le_self M G
              have hrG : r < G := by rw [← hr]; exact Nat.mod_lt M (by omega)
              have Hq := Lib.hid hq
              have Hr := Lib.hid hr
              clear hq hr
              have hM200 : M ≤ 200 := by omega
              have hn200 : s.size ≤ 200 := by omega
              have hG0 : ¬ ((G : Int) = 0) := by omega
              clear hM
              go_wp2
              go_loopw [8, 9, 10, 11, 12] (fun vs vj vk _ _ wr2 => ∃ (k j : Nat) (o : List UInt8) (z : ByteArray), k ≤ bs.length ∧ j ≤ k ∧ vk = .int .i64 (k : Nat) ∧ vj = .int .i64 (j : Nat) ∧ vs = .string z ∧ Hid (z = bstrF o) ∧ o.length ≤ 202 * k ∧ Hid (fillF M G 0 bs = o ++ fillF M G j (bs.drop k)) ∧ wr2 = wr) (fun _ _ vk _ _ _ => bs.length - (intOf vk).toNat)
              case atStart => exact ⟨0, 0, [], ⟨#[]⟩, by omega, by omega, rfl, rfl, rfl, Lib.hid rfl, by simp, Lib.hid rfl, rfl⟩
              case round =>
                obtain ⟨k, j, o, z, hk, hj0, rfl, rfl, rfl, Hz, hol, HF, rfl⟩ := hrel
                have hzs : z.size ≤ 202 * k := by rw [Hz.out, bstrF_size]; exact hol
                by_cases hlt : k < bs.length
                · have hks : k < s.size := by omega
                  have hF := HF.out
                  rw [fillF_drop hlt, Hq.out, Hr.out] at hF
                  obtain ⟨x, hbx⟩ : ∃ x, bs[k] = x := ⟨_, rfl⟩
                  have hsx : s[k] = x := by rw [← hbx]; exact byte_at Hbs.out hks hlt
                  have hex : s.extract k (k + 1) = ⟨#[x]⟩ := by rw [← hbx]; exact byte_cut Hbs.out hlt
                  rw [hbx] at hF
                  clear hbx
                  have e3 : decide ((k : Int) < (s.size : Int)) = true := decide_eq_true (by omega)
                  have hzx : (z ++ (⟨#[x]⟩ : ByteArray)).size = z.size + 1 := by rw [ByteArray.size_append]; rfl
                  have hxs : (⟨#[x]⟩ : ByteArray).size = 1 := rfl
                  by_cases hsp : x = 32
                  · subst hsp
                    have e2 : ((UInt8.toNat 32 : Int) != 32) = false := rfl
                    by_cases hj : j < r
                    · skip
                      have e4 : decide ((j : Int) < (r : Int)) = true := decide_eq_true (by omega)
                      have e4n : decide (j < r) = true := decide_eq_true hj
                      have HF2 := Lib.hid (show fillF M G 0 bs = (o ++ [32] ++ List.replicate (q + 1) 32) ++ fillF M G (j + 1) (bs.drop (k + 1)) by rw [hF, if_pos rfl, if_pos hj]; simp)
                      clear hF hj
                      go_wp2
                      go_loopw [8, 12] (fun vs vk wq => ∃ kk : Nat, kk ≤ q + 1 ∧ vk = .int .i64 (kk : Nat) ∧ Hid (vs = .string (bstrF (o ++ [32] ++ List.replicate kk 32))) ∧ wq = wr) (fun _ vk _ => q + 1 - (intOf vk).toNat)
                      case atStart => exact ⟨0, by omega, rfl, Lib.hid (int_str (by rw [Hz.out]; exact bytesList_inj (by simp [bstrF, ByteArray.data_append]))), rfl⟩
                      case round =>
                        obtain ⟨kk, hkk, rfl, Hs, rfl⟩ := hrel
                        have hs2 := Hs.out
                        have hsz : (bstrF (o ++ [32] ++ List.replicate kk 32)).size ≤ 202 * k + 202 := by
                          rw [bstrF_size]
                          simp
                          omega
                        obtain ⟨y, hy⟩ : ∃ y, bstrF (o ++ [32] ++ List.replicate kk 32) = y := ⟨_, rfl⟩
                        rw [hy] at hs2 hsz
                        have Hy := Lib.hid hy
                        clear hy Hs
                        subst hs2
                        by_cases hkl : kk < q + 1
                        · have e5 : decide ((kk : Int) < ((q + 1 : Nat) : Int)) = true := decide_eq_true (by omega)
                          have e6 : decide ((kk : Int) < ((q : Int) + 1)) = true := decide_eq_true (by omega)
                          have e7 : decide (kk < q + 1) = true := decide_eq_true hkl
                          have hys : (y ++ (⟨#[32]⟩ : ByteArray)).size = y.size + 1 := by rw [ByteArray.size_append]; rfl
                          go_wp2
                          go_roundw
                          case rel => exact ⟨kk + 1, by omega, by go_num, Lib.hid (int_str (by rw [← Hy.out]; exact bytesList_inj (by simp [bstrF, ByteArray.data_append, List.replicate_succ']))), trivial⟩
                          case measure => simp [intOf] <;> omega
                        · have e5 : decide ((kk : Int) < ((q + 1 : Nat) : Int)) = false := decide_eq_false (by omega)
                          have e6 : decide ((kk : Int) < ((q : Int) + 1)) = false := decide_eq_false (by omega)
                          have e7 : decide (kk < q + 1) = false := decide_eq_false hkl
                          have hkk2 : kk = q + 1 := by omega
                          have Hy2 := Lib.hid (show y = bstrF (o ++ [32] ++ List.replicate (q + 1) 32) by rw [← Hy.out, hkk2])
                          clear hkk2
                          go_wp2
                          go_roundw
                          case rel => exact ⟨k + 1, j + 1, o ++ [32] ++ List.replicate (q + 1) 32, y, by omega, by omega, by go_num, by go_num, rfl, Hy2, by simp; omega, HF2, trivial⟩
                          case measure => simp [intOf] <;> omega
                    · skip
                      have e4 : decide ((j : Int) < (r : Int)) = false := decide_eq_false (by omega)
                      have e4n : decide (j < r) = false := decide_eq_false hj
                      have HF2 := Lib.hid (show fillF M G 0 bs = (o ++ [32] ++ List.replicate (q) 32) ++ fillF M G (j + 1) (bs.drop (k + 1)) by rw [hF, if_pos rfl, if_neg hj]; simp)
                      clear hF hj
                      go_wp2
                      go_loopw [8, 12] (fun vs vk wq => ∃ kk : Nat, kk ≤ q ∧ vk = .int .i64 (kk : Nat) ∧ Hid (vs = .string (bstrF (o ++ [32] ++ List.replicate kk 32))) ∧ wq = wr) (fun _ vk _ => q - (intOf vk).toNat)
                      case atStart => exact ⟨0, by omega, rfl, Lib.hid (int_str (by rw [Hz.out]; exact bytesList_inj (by simp [bstrF, ByteArray.data_append]))), rfl⟩
                      case round =>
                        obtain ⟨kk, hkk, rfl, Hs, rfl⟩ := hrel
                        have hs2 := Hs.out
                        have hsz : (bstrF (o ++ [32] ++ List.replicate kk 32)).size ≤ 202 * k + 202 := by
                          rw [bstrF_size]
                          simp
                          omega
                        obtain ⟨y, hy⟩ : ∃ y, bstrF (o ++ [32] ++ List.replicate kk 32) = y := ⟨_, rfl⟩
                        rw [hy] at hs2 hsz
                        have Hy := Lib.hid hy
                        clear hy Hs
                        subst hs2
                        by_cases hkl : kk < q
                        · have e5 : decide ((kk : Int) < ((q : Nat) : Int)) = true := decide_eq_true (by omega)
                          have e6 : decide ((kk : Int) < ((q : Int))) = true := decide_eq_true (by omega)
                          have e7 : decide (kk < q) = true := decide_eq_true hkl
                          have hys : (y ++ (⟨#[32]⟩ : ByteArray)).size = y.size + 1 := by rw [ByteArray.size_append]; rfl
                          go_wp2
                          go_roundw
                          case rel => exact ⟨kk + 1, by omega, by go_num, Lib.hid (int_str (by rw [← Hy.out]; exact bytesList_inj (by simp [bstrF, ByteArray.data_append, List.replicate_succ']))), trivial⟩
                          case measure => simp [intOf] <;> omega
                        · have e5 : decide ((kk : Int) < ((q : Nat) : Int)) = false := decide_eq_false (by omega)
                          have e6 : decide ((kk : Int) < ((q : Int))) = false := decide_eq_false (by omega)
                          have e7 : decide (kk < q) = false := decide_eq_false hkl
                          have hkk2 : kk = q := by omega
                          have Hy2 := Lib.hid (show y = bstrF (o ++ [32] ++ List.replicate (q) 32) by rw [← Hy.out, hkk2])
                          clear hkk2
                          go_wp2
                          go_roundw
                          case rel => exact ⟨k + 1, j + 1, o ++ [32] ++ List.replicate (q) 32, y, by omega, by omega, by go_num, by go_num, rfl, Hy2, by simp; omega, HF2, trivial⟩
                          case measure => simp [intOf] <;> omega
                  · have e2 : ((x.toNat : Int) != 32) = true := by simp only [bne, byte_ne hsp]; rfl
                    rw [if_neg hsp] at hF
                    have HF2 := Lib.hid (show fillF M G 0 bs = (o ++ [x]) ++ fillF M G j (bs.drop (k + 1)) by rw [hF]; simp)
                    have Hz2 := Lib.hid (show z ++ ⟨#[x]⟩ = bstrF (o ++ [x]) by rw [Hz.out]; exact bytesList_inj (by simp [bstrF, ByteArray.data_append]))
                    clear hF hsp
                    go_wp2
                    go_roundw
                    case rel => exact ⟨k + 1, j, o ++ [x], _, by omega, by omega, by go_num, rfl, rfl, Hz2, by simp; omega, HF2, trivial⟩
                    case measure => simp [intOf] <;> omega
                · obtain rfl : k = bs.length := by omega
                  have hF := HF.out
                  rw [List.drop_of_length_le (by omega), fillF, List.append_nil] at hF
                  have HF2 := Lib.hid hF
                  have e3 : decide ((bs.length : Int) < (s.size : Int)) = false := decide_eq_false (by omega)
                  clear hF
                  go_wp2
                  go_ret
                  exact ⟨by rw [HJ.out, HF2.out, Hz.out]; rfl, rfl⟩

end Go.Proofs.Ytdglijpooodlnaa
