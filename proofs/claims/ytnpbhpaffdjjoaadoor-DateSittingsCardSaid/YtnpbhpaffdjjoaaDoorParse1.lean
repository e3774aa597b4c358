/- Parse: the walks. -/
import Derived.Test.YtnpbhpaffdjjoaaDoorFormW1
namespace Go.Proofs.YtnpbhpaffdjjoaaDoor
open Go.RowKit

def formB (l : List UInt8) : Bool := decide (l.length = 8) && (decide (l[4]? = some 45) && (numB (l.take 4) && numB (l.drop 5)))
def parseN (l : List UInt8) : Int := if formB l = true then atF (valN (l.take 4)) (valN (l.drop 5)) else 0
def parseE (l : List UInt8) : Int := if formB l = true then (if atB (valN (l.take 4)) (valN (l.drop 5)) = true then 0 else 3) else 2
theorem parse_no {l : List UInt8} (h : formB l = false) : parseN l = 0 ∧ parseE l = 2 := by simp [parseN, parseE, h]
theorem parse_yes {l : List UInt8} (h : formB l = true) (h2 : atB (valN (l.take 4)) (valN (l.drop 5)) = true) : parseN l = atF (valN (l.take 4)) (valN (l.drop 5)) ∧ parseE l = 0 := by simp [parseN, parseE, h, h2]
theorem parse_out {l : List UInt8} (h : formB l = true) (h2 : atB (valN (l.take 4)) (valN (l.drop 5)) = false) : parseN l = 0 ∧ parseE l = 3 := by simp [parseN, parseE, h, h2, atF]
theorem get4 {s : ByteArray} (h : s.size = 8) : s.data.toList[4]? = some (s[4]'(by omega)) := by
  have : 4 < s.data.toList.length := by simp; omega
  rw [List.getElem?_eq_getElem this]; rfl
theorem take4 {s : ByteArray} (_h : s.size = 8) : (s.extract 0 4).data.toList = s.data.toList.take 4 := by simp
theorem drop5 {s : ByteArray} (h : s.size = 8) : (s.extract 5 8).data.toList = s.data.toList.drop 5 := by
  have : s.data.toList.length = 8 := by simp [← h]
  simp
  rw [List.take_of_length_le (by simp; omega)]

set_option maxHeartbeats 800000 in
theorem parse_any (s : ByteArray) (w : World) : Calls Tryd.prog 24 #[.string s] w fun e w' => e = .returned (.tuple #[.int .i64 (parseN s.data.toList), .int .i64 (parseE s.data.toList)]) ∧ w = w' := by
  by_cases hz : s.size = 8
  · have g4 := get4 hz
    have hl8 : s.data.toList.length = 8 := by simp [← hz]
    by_cases h45 : (s[4]'(by omega)) = 45
    · have b4 : (((s[4]'(by omega)).toNat : Int) != 45) = false := by rw [h45]; rfl
      have hf : formB s.data.toList = (numB (s.data.toList.take 4) && numB (s.data.toList.drop 5)) := by
        unfold formB
        rw [g4, hl8, h45]
        simp
      have hn1 := number_any (s.extract 0 4) (by simp; omega)
      have hn2 := number_any (s.extract 5 8) (by simp; omega)
      rw [take4 hz] at hn1
      rw [drop5 hz] at hn2
      obtain ⟨l1, hl1⟩ : ∃ l1, s.data.toList.take 4 = l1 := ⟨_, rfl⟩
      obtain ⟨l2, hl2⟩ : ∃ l2, s.data.toList.drop 5 = l2 := ⟨_, rfl⟩
      rw [hl1] at hn1 hf
      rw [hl2] at hn2 hf
      have Hn1 := Lib.hid hn1
      have Hn2 := Lib.hid hn2
      have Hl1 := Lib.hid hl1
      have Hl2 := Lib.hid hl2
      have Hf := Lib.hid hf
      clear hn1 hn2 hl1 hl2 hf g4 hl8 h45
      go_enter Tryd.func24, Tryd.ntmps24
      go_wp2_with fail
      refine (Hn1.out _).mono ?_
      rintro e w' ⟨rfl, rfl⟩
      go_wp2_with fail
      refine (Hn2.out _).mono ?_
      rintro e w' ⟨rfl, rfl⟩
      cases hb1 : numB l1
      · have hf := Hf.out
        rw [hb1, Bool.false_and] at hf
        have Hp := Lib.hid (parse_no hf)
        clear hf
        go_wp2
        go_ret2
        exact ⟨ret_val (by rw [Hp.out.1, Hp.out.2]; rfl), rfl⟩
      · cases hb2 : numB l2
        · have hf := Hf.out
          rw [hb1, hb2] at hf
          have Hp := Lib.hid (parse_no hf)
          clear hf
          go_wp2
          go_ret2
          exact ⟨ret_val (by rw [Hp.out.1, Hp.out.2]; rfl), rfl⟩
        · have hf := Hf.out
          rw [hb1, hb2] at hf
          have Hb1 := Lib.hid (numV_yes hb1)
          have Hb2 := Lib.hid (numV_yes hb2)
          rw [Hb1.out, Hb2.out]
          clear hb1 hb2 Hb1 Hb2
          have ha := at_any (valN l1) (valN l2)
          cases hab : atB (valN l1) (valN l2)
          · have Hp := Lib.hid (parse_out hf (by rw [Hl1.out, Hl2.out]; exact hab))
            rw [hab] at ha
            have Ha := Lib.hid ha
            clear ha hf hab
            go_wp2_with fail
            refine (Ha.out _).mono ?_
            rintro e w' ⟨rfl, rfl⟩
            go_wp2
            go_ret2
            exact ⟨ret_val (by rw [Hp.out.1, Hp.out.2]; rfl), rfl⟩
          · have Hp := Lib.hid (parse_yes hf (by rw [Hl1.out, Hl2.out]; exact hab))
            rw [hab] at ha
            have Ha := Lib.hid ha
            clear ha hf hab
            go_wp2_with fail
            refine (Ha.out _).mono ?_
            rintro e w' ⟨rfl, rfl⟩
            go_wp2
            go_ret2
            exact ⟨ret_val (by rw [Hp.out.1, Hp.out.2, Hl1.out, Hl2.out]; rfl), rfl⟩
    · have hf : formB s.data.toList = false := by simp [formB, g4, h45]
      obtain ⟨p1, p2⟩ := parse_no hf
      rw [p1, p2]
      have b4 : (((s[4]'(by omega)).toNat : Int) != 45) = true := by
        have n4 : (s[4]'(by omega)).toNat ≠ 45 := fun h => h45 (UInt8.toNat_inj.1 h)
        simp only [bne_iff_ne]
        omega
      clear hf p1 p2 g4 hl8 h45
      go_enter Tryd.func24, Tryd.ntmps24
      go_wp2
      go_ret2
      exact ⟨rfl, rfl⟩
  · have hf : formB s.data.toList = false := by
      have h8 : decide (s.data.toList.length = 8) = false := decide_eq_false (by simpa using hz)
      simp only [formB, h8, Bool.false_and]
    obtain ⟨p1, p2⟩ := parse_no hf
    rw [p1, p2]
    have b1 : ((s.size : Int) != 8) = true := by simp; omega
    clear hf p1 p2 hz
    go_enter Tryd.func24, Tryd.ntmps24
    go_wp2
    go_ret2
    exact ⟨rfl, rfl⟩

end Go.Proofs.YtnpbhpaffdjjoaaDoor
