/- The laws on Replace and InsertAfter: the program's answer is the reference's. -/
import Derived.Test.YtkbmocgjbhmioaaAwake
namespace Go.Proofs.Ytkbmocgjbhmioaa
open Go.RowKit

theorem heldF_len (xs : List GWord) : (heldF xs).1.length ≤ 256 := by
  unfold heldF
  split <;> simp [*]
theorem repF_len (l : List GWord) (old fresh : List ByteArray) (nth act item : Int) : (repF l old fresh nth act item).1.length ≤ 256 := by
  unfold repF
  split
  · simp
  · split
    · simp
    · exact heldF_len _
theorem insF_len (l : List GWord) (old fresh : List ByteArray) (nth act item : Int) : (insF l old fresh nth act item).1.length ≤ 256 := by
  unfold insF
  repeat' split
  all_goals first | exact heldF_len _ | simp

set_option maxRecDepth 100000 in
set_option maxHeartbeats 1600000 in
theorem replaces_any (A B C : Option Addr) (c d f : Nat) (l : List GWord) (old fresh : List ByteArray) (nth act item : Int) (w : World) (hl : Sl wordEl w A l) (hx : Sl strEl w B old) (hy : Sl strEl w C fresh)
    (hn : l.length ≤ 9223372036854775807) (ho : old.length ≤ 9223372036854775807) (hm : fresh.length ≤ 9223372036854775807) (hc : l.length ≤ c) :
    Calls Try.prog 3 #[.slice A l.length c, .slice B old.length d, .slice C fresh.length f, .int .i64 nth, .int .i64 act, .int .i64 item] w fun e w' => e = .returned (.bool true) ∧ Ext w w' := by
  obtain ⟨b, hb⟩ : ∃ b, b = fewB l [old, fresh] := ⟨_, rfl⟩
  go_enter Try.func3, Try.ntmps3
  go_wp2_with fail
  refine (awake_any _).mono ?_
  rintro e w1 ⟨rfl, hext1⟩
  go_wp2_with fail
  refine (few_any _ _ _ _ l [(B, d, old), (C, f, fresh)] _ ((hl.ext hext1).ext ((Ext.refl _).alloc _)) (Sl.new slsEl rfl) ?_ hn (by simp)).mono ?_
  · intro x hx'
    simp only [List.mem_cons, List.not_mem_nil, or_false] at hx'
    rcases hx' with rfl | rfl
    · exact ⟨(hx.ext hext1).ext ((Ext.refl _).alloc _), ho⟩
    · exact ⟨(hy.ext hext1).ext ((Ext.refl _).alloc _), hm⟩
  rintro e w2 ⟨rfl, rfl⟩
  simp only [List.map_cons, List.map_nil]
  rw [← hb]
  cases b
  · clear hb
    go_wp2
    go_ret
    exact ⟨rfl, hext1.alloc _⟩
  · have hfew := hb.symm
    clear hb
    simp only [fewB, List.all_cons, List.all_nil, Bool.and_true, Bool.and_eq_true] at hfew
    have n1 := shortB_len hfew.2
    have n2 := briefB_len hfew.1.1
    have n3 := briefB_len hfew.1.2
    clear hfew
    have hx2 := hext1.alloc (.cells (slsEl.flat [(B, d, old), (C, f, fresh)]).toArray slsEl.e)
    go_wp2_with fail
    refine (replace_any A B C c d f l old fresh nth act item _ ((hl.ext hext1).ext ((Ext.refl _).alloc _)) ((hx.ext hext1).ext ((Ext.refl _).alloc _)) ((hy.ext hext1).ext ((Ext.refl _).alloc _)) (by omega) (by omega) (by omega)).mono ?_
    rintro e w3 ⟨A3, c3, rfl, hc3, hs3, hext3⟩
    have hl3 := (((hl.ext hext1).ext ((Ext.refl _).alloc _)).ext hext3)
    have hx3 := (((hx.ext hext1).ext ((Ext.refl _).alloc _)).ext hext3)
    have hy3 := (((hy.ext hext1).ext ((Ext.refl _).alloc _)).ext hext3)
    have he3 : Ext w w3 := (hext1.trans ((Ext.refl _).alloc _)).trans hext3
    clear hext3 hl hx hy hext1 hx2
    go_wp2_with fail
    refine (refReplace_any A B C c d f l old fresh nth act item _ hl3 hx3 hy3 (by omega) (by omega) (by omega) hc).mono ?_
    rintro e w4 ⟨A4, c4, rfl, hc4, hs4, hext4⟩
    have hs3' := hs3.ext hext4
    have hlen : (repF l old fresh nth act item).1.length ≤ 256 := repF_len ..
    generalize repF l old fresh nth act item = r at hs3' hs4 hlen hc3 hc4 ⊢
    clear hs3 hl3 hx3 hy3
    have he4 := he3.trans hext4
    clear hext4 he3
    go_wp2_with fail
    refine (rows_any _ _ _ _ r.1 r.1 _ hs3' hs4 (by omega)).mono ?_
    rintro e w5 ⟨rfl, m, rfl⟩
    go_wp2
    go_ret
    exact ⟨ret_bool (by simp), he4.drewN _⟩

set_option maxRecDepth 100000 in
set_option maxHeartbeats 1600000 in
theorem inserts_any (A B C : Option Addr) (c d f : Nat) (l : List GWord) (old fresh : List ByteArray) (nth act item : Int) (w : World) (hl : Sl wordEl w A l) (hx : Sl strEl w B old) (hy : Sl strEl w C fresh)
    (hn : l.length ≤ 9223372036854775807) (ho : old.length ≤ 9223372036854775807) (hm : fresh.length ≤ 9223372036854775807) (hc : l.length ≤ c) :
    Calls Try.prog 4 #[.slice A l.length c, .slice B old.length d, .slice C fresh.length f, .int .i64 nth, .int .i64 act, .int .i64 item] w fun e w' => e = .returned (.bool true) ∧ Ext w w' := by
  obtain ⟨b, hb⟩ : ∃ b, b = fewB l [old, fresh] := ⟨_, rfl⟩
  go_enter Try.func4, Try.ntmps4
  go_wp2_with fail
  refine (awake_any _).mono ?_
  rintro e w1 ⟨rfl, hext1⟩
  go_wp2_with fail
  refine (few_any _ _ _ _ l [(B, d, old), (C, f, fresh)] _ ((hl.ext hext1).ext ((Ext.refl _).alloc _)) (Sl.new slsEl rfl) ?_ hn (by simp)).mono ?_
  · intro x hx'
    simp only [List.mem_cons, List.not_mem_nil, or_false] at hx'
    rcases hx' with rfl | rfl
    · exact ⟨(hx.ext hext1).ext ((Ext.refl _).alloc _), ho⟩
    · exact ⟨(hy.ext hext1).ext ((Ext.refl _).alloc _), hm⟩
  rintro e w2 ⟨rfl, rfl⟩
  simp only [List.map_cons, List.map_nil]
  rw [← hb]
  cases b
  · clear hb
    go_wp2
    go_ret
    exact ⟨rfl, hext1.alloc _⟩
  · have hfew := hb.symm
    clear hb
    simp only [fewB, List.all_cons, List.all_nil, Bool.and_true, Bool.and_eq_true] at hfew
    have n1 := shortB_len hfew.2
    have n2 := briefB_len hfew.1.1
    have n3 := briefB_len hfew.1.2
    clear hfew
    have hx2 := hext1.alloc (.cells (slsEl.flat [(B, d, old), (C, f, fresh)]).toArray slsEl.e)
    go_wp2_with fail
    refine (insert_any A B C c d f l old fresh nth act item _ ((hl.ext hext1).ext ((Ext.refl _).alloc _)) ((hx.ext hext1).ext ((Ext.refl _).alloc _)) ((hy.ext hext1).ext ((Ext.refl _).alloc _)) (by omega) (by omega) (by omega)).mono ?_
    rintro e w3 ⟨A3, c3, rfl, hc3, hs3, hext3⟩
    have hl3 := (((hl.ext hext1).ext ((Ext.refl _).alloc _)).ext hext3)
    have hx3 := (((hx.ext hext1).ext ((Ext.refl _).alloc _)).ext hext3)
    have hy3 := (((hy.ext hext1).ext ((Ext.refl _).alloc _)).ext hext3)
    have he3 : Ext w w3 := (hext1.trans ((Ext.refl _).alloc _)).trans hext3
    clear hext3 hl hx hy hext1 hx2
    go_wp2_with fail
    refine (behind_any A B C c d f l old fresh nth act item _ hl3 hx3 hy3 (by omega) (by omega) (by omega) hc).mono ?_
    rintro e w4 ⟨A4, c4, rfl, hc4, hs4, hext4⟩
    have hs3' := hs3.ext hext4
    have hlen : (insF l old fresh nth act item).1.length ≤ 256 := insF_len ..
    generalize insF l old fresh nth act item = r at hs3' hs4 hlen hc3 hc4 ⊢
    clear hs3 hl3 hx3 hy3
    have he4 := he3.trans hext4
    clear hext4 he3
    go_wp2_with fail
    refine (rows_any _ _ _ _ r.1 r.1 _ hs3' hs4 (by omega)).mono ?_
    rintro e w5 ⟨rfl, m, rfl⟩
    go_wp2
    go_ret
    exact ⟨ret_bool (by simp), he4.drewN _⟩

end Go.Proofs.Ytkbmocgjbhmioaa
