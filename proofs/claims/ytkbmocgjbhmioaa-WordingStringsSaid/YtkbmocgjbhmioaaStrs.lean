/- wordseq.Replace and InsertAfter: the texts with each chosen occurrence replaced. -/
import Derived.Test.YtkbmocgjbhmioaaSeq
namespace Go.Proofs.Ytkbmocgjbhmioaa
open Go.RowKit

theorem chosen_found (l part : List ByteArray) (nth : Int) (hg : 0 < part.length) : ∃ qs : List Nat, chosenF (findF l part) nth = qs.map (fun n : Nat => (n : Int)) ∧ goodP l.length part.length 0 qs ∧ (∀ q ∈ qs, stands l part q) ∧ qs.length ≤ l.length := by
  obtain ⟨ps, h1, h2, h3⟩ := found l part hg
  obtain ⟨qs, h4, h5⟩ := chosen_good l part nth hg
  have hlen : qs.length ≤ l.length := by
    have a1 := chosenF_length (findF l part) nth
    have a2 := findF_length l part
    rw [h4, List.length_map] at a1
    omega
  refine ⟨qs, h4, h5, fun q hq => h3 q ?_, hlen⟩
  have hmem : (q : Int) ∈ chosenF (findF l part) nth := by rw [h4]; exact List.mem_map.2 ⟨q, hq, rfl⟩
  have : (q : Int) ∈ findF l part := by
    unfold chosenF at hmem
    split at hmem
    · exact hmem
    · split at hmem
      · cases hmem
      · exact List.mem_of_mem_drop (List.mem_of_mem_take hmem)
  rw [h1] at this
  obtain ⟨p, hp, hpq⟩ := List.mem_map.1 this
  have : p = q := by omega
  rwa [← this]

set_option maxRecDepth 100000 in
set_option maxHeartbeats 400000 in
theorem clRep_any (A C : Option Addr) (c f bx : Nat) (ys fresh : List ByteArray) (w : World) (hb : w.cell? ⟨bx, 0, none⟩ = some (.slice C fresh.length f)) (hs : Sl strEl w C fresh) (hf : fresh.length ≤ f) :
    Calls Try.prog 51 #[.slice A ys.length c, .pointer (some ⟨bx, 0, none⟩)] w (RetSl strEl w fresh) := by
  go_enter Try.func51, Try.ntmps51
  go_wp2
  go_ret
  exact ⟨C, f, rfl, hf, hs, Ext.refl _⟩

set_option maxRecDepth 100000 in
set_option maxHeartbeats 400000 in
theorem clIns_any (A C : Option Addr) (c f bx : Nat) (ys fresh : List ByteArray) (w : World) (hb : w.cell? ⟨bx, 0, none⟩ = some (.slice C fresh.length f)) (hs : Sl strEl w C fresh) (hy : Sl strEl w A ys) (h1 : ys.length ≤ 1048576) (h2 : fresh.length ≤ 1048576) :
    Calls Try.prog 54 #[.slice A ys.length c, .pointer (some ⟨bx, 0, none⟩)] w (RetSl strEl w (ys ++ fresh)) := by
  obtain ⟨zs, hzs⟩ : ∃ zs, ys ++ fresh = zs := ⟨_, rfl⟩
  rw [hzs]
  have hcat : cat [(A, c, ys), (C, f, fresh)] = zs := by rw [← hzs]; simp [cat]
  have hzl : zs.length ≤ 1073741824 := by rw [← hzs, List.length_append]; omega
  have Hcat := Lib.hid hcat
  clear hzs hcat
  go_enter Try.func54, Try.ntmps54
  go_wp2_with fail
  refine (concat_any _ _ [(A, c, ys), (C, f, fresh)] _ (Sl.new slsEl rfl) ?_ (by simp) (by rw [Hcat.out]; exact hzl)).mono ?_
  · intro x hx
    simp only [List.mem_cons, List.not_mem_nil, or_false] at hx
    rcases hx with rfl | rfl
    · exact hy.ext ((Ext.refl _).alloc _)
    · exact hs.ext ((Ext.refl _).alloc _)
  rintro e w1 ⟨v, rfl, hown, hext⟩
  rw [Hcat.out] at hown
  obtain ⟨D, cw, rfl, hcw, hsw⟩ := Own.form hown
  go_wp2
  go_ret
  exact ⟨D, cw, rfl, hcw, hsw, ((Ext.refl _).alloc _).trans hext⟩

set_option maxRecDepth 100000 in
set_option maxHeartbeats 800000 in
theorem seqReplace_any (A B C : Option Addr) (c d f : Nat) (l old fresh : List ByteArray) (nth : Int) (w : World) (hl : Sl strEl w A l) (hx : Sl strEl w B old) (hy : Sl strEl w C fresh)
    (hn : l.length ≤ 1048576) (ho : old.length ≤ 512) (ho0 : 0 < old.length) (hm : fresh.length ≤ 512) (hc : l.length ≤ c) (hf : fresh.length ≤ f) (qs : List Nat) (Hq : Hid (chosenF (findF l old) nth = qs.map (fun n : Nat => (n : Int)))) (hql : qs.length ≤ 1048576)
    (hgood : goodP l.length old.length 0 qs) (hst : ∀ q ∈ qs, stands l old q) :
    Calls Try.prog 27 #[.slice A l.length c, .slice B old.length d, .slice C fresh.length f, .int .i64 nth] w
      fun r w' => ∃ v, r = .returned (.tuple #[v, .int .i64 (qs.length : Nat)]) ∧ Own strEl w.heap.size w' v (edT l old.length (fresh) 0 qs) ∧ Ext w w' := by
  have Hst := Lib.hid hst
  clear hst
  have hbox : ∀ w', Ext (w.alloc (.cells #[.slice C fresh.length f] 23)) w' → w'.cell? ⟨w.heap.size, 0, none⟩ = some (.slice C fresh.length f) := by
    intro w' he
    obtain ⟨b, off, h1, h2, h3⟩ := slsAt ((Sl.new slsEl (w := w) (xs := [(C, f, fresh)]) rfl).ext he) (k := 0) (by simp)
    simp only [Option.some.injEq, Addr.mk.injEq] at h1
    obtain ⟨rfl, rfl, -⟩ := h1
    exact h3
  have Hbox := Lib.hid hbox
  have he1 : Ext w (w.alloc (.cells #[.slice C fresh.length f] 23)) := (Ext.refl w).alloc _
  obtain ⟨xs, hxs⟩ : ∃ xs, qs.map (fun n : Nat => (n : Int)) = xs := ⟨_, rfl⟩
  have hxl : xs.length ≤ 1048576 := by rw [← hxs, List.length_map]; exact hql
  rw [hxs] at Hq
  have Hxs : Hid (xs = qs.map (fun n : Nat => (n : Int))) := hxs.symm
  have h0 : ((old.length : Int) == 0) = false := beq_eq_false_iff_ne.2 (by omega)
  clear hbox hxs
  obtain ⟨ED, hED⟩ : ∃ ED, edT l old.length (fresh) 0 qs = ED := ⟨_, rfl⟩
  rw [hED]
  have HED := Lib.hid hED
  clear hED
  go_enter Try.func27, Try.ntmps27
  go_wp2_with fail
  refine (seqChosen_any A B c d l old nth _ (hl.ext he1) (hx.ext he1) hn (by omega) hc).mono ?_
  rintro e w1 ⟨A1, c1, rfl, hc1, hs1, hext1⟩
  rw [Hq.out] at hs1 hc1 ⊢
  go_wp2_with fail
  refine (eachRep_any A B A1 c d c1 l old (fresh) qs xs w.heap.size _ ((hl.ext he1).ext hext1) hs1 Hxs (fun w' A' c' ys hw hs' hys hlc => clRep_any A' C c' f _ ys fresh w' (Hbox.out w' (hext1.trans hw)) (((hy.ext he1).ext hext1).ext hw) hf) hn hxl (by omega) hc hgood Hst.out).mono ?_
  rintro e w2 ⟨v, rfl, hown, hext2⟩
  rw [HED.out] at hown
  go_wp2
  go_ret2
  exact ⟨v, rfl, hown.mono (Nat.le_trans he1.size hext1.size), (he1.trans hext1).trans hext2⟩

set_option maxRecDepth 100000 in
set_option maxHeartbeats 800000 in
theorem seqInsert_any (A B C : Option Addr) (c d f : Nat) (l old fresh : List ByteArray) (nth : Int) (w : World) (hl : Sl strEl w A l) (hx : Sl strEl w B old) (hy : Sl strEl w C fresh)
    (hn : l.length ≤ 1048576) (ho : old.length ≤ 512) (ho0 : 0 < old.length) (hm : fresh.length ≤ 512) (hc : l.length ≤ c) (hf : fresh.length ≤ f) (qs : List Nat) (Hq : Hid (chosenF (findF l old) nth = qs.map (fun n : Nat => (n : Int)))) (hql : qs.length ≤ 1048576)
    (hgood : goodP l.length old.length 0 qs) (hst : ∀ q ∈ qs, stands l old q) :
    Calls Try.prog 28 #[.slice A l.length c, .slice B old.length d, .slice C fresh.length f, .int .i64 nth] w
      fun r w' => ∃ v, r = .returned (.tuple #[v, .int .i64 (qs.length : Nat)]) ∧ Own strEl w.heap.size w' v (edT l old.length (old ++ fresh) 0 qs) ∧ Ext w w' := by
  have Hst := Lib.hid hst
  clear hst
  have hbox : ∀ w', Ext (w.alloc (.cells #[.slice C fresh.length f] 23)) w' → w'.cell? ⟨w.heap.size, 0, none⟩ = some (.slice C fresh.length f) := by
    intro w' he
    obtain ⟨b, off, h1, h2, h3⟩ := slsAt ((Sl.new slsEl (w := w) (xs := [(C, f, fresh)]) rfl).ext he) (k := 0) (by simp)
    simp only [Option.some.injEq, Addr.mk.injEq] at h1
    obtain ⟨rfl, rfl, -⟩ := h1
    exact h3
  have Hbox := Lib.hid hbox
  have he1 : Ext w (w.alloc (.cells #[.slice C fresh.length f] 23)) := (Ext.refl w).alloc _
  obtain ⟨xs, hxs⟩ : ∃ xs, qs.map (fun n : Nat => (n : Int)) = xs := ⟨_, rfl⟩
  have hxl : xs.length ≤ 1048576 := by rw [← hxs, List.length_map]; exact hql
  rw [hxs] at Hq
  have Hxs : Hid (xs = qs.map (fun n : Nat => (n : Int))) := hxs.symm
  have h0 : ((old.length : Int) == 0) = false := beq_eq_false_iff_ne.2 (by omega)
  clear hbox hxs
  obtain ⟨ED, hED⟩ : ∃ ED, edT l old.length (old ++ fresh) 0 qs = ED := ⟨_, rfl⟩
  rw [hED]
  have HED := Lib.hid hED
  clear hED
  go_enter Try.func28, Try.ntmps28
  go_wp2_with fail
  refine (seqChosen_any A B c d l old nth _ (hl.ext he1) (hx.ext he1) hn (by omega) hc).mono ?_
  rintro e w1 ⟨A1, c1, rfl, hc1, hs1, hext1⟩
  rw [Hq.out] at hs1 hc1 ⊢
  go_wp2_with fail
  refine (eachIns_any A B A1 c d c1 l old (old ++ fresh) qs xs w.heap.size _ ((hl.ext he1).ext hext1) hs1 Hxs (fun w' A' c' ys hw hs' hys hlc => by rw [← hys]; exact clIns_any A' C c' f _ ys fresh w' (Hbox.out w' (hext1.trans hw)) (((hy.ext he1).ext hext1).ext hw) hs' (by rw [hys]; omega) (by omega)) hn hxl (by rw [List.length_append]; omega) hc hgood Hst.out).mono ?_
  rintro e w2 ⟨v, rfl, hown, hext2⟩
  rw [HED.out] at hown
  go_wp2
  go_ret2
  exact ⟨v, rfl, hown.mono (Nat.le_trans he1.size hext1.size), (he1.trans hext1).trans hext2⟩

end Go.Proofs.Ytkbmocgjbhmioaa
