/- paginate.Words: the words of the lines of pages. concordance.bare: a word without the punctuation around it. The shelf's contracts at this program. -/
import Derived.Test.YtjhdamjbljafhaaGreatDoorP46
import Derived.Test.YtjhdamjbljafhaaGreatDoorP12
import Derived.Shelf.Strings.SlTrimAscii
import Derived.Shelf.SlGeneric
import Derived.Shelf.SlIter.Nil
import Derived.Shelf.SortM.Plain
import Derived.Shelf.SortM.SortNone
import Derived.Ground.GgzProg
import Derived.Ground.SlgmProg
import Derived.Test.YtjhdamjbljafhaaGreatDoorProg
namespace Go.Proofs.YtjhdamjbljafhaaGreatDoor
open Go.RowKit
theorem pageAt {w : World} {A : Option Addr} {xs : List RPage} (h : Sl pageEl w A xs) {k : Nat} (hk : k < xs.length) : ∃ b off, A = some ⟨b, off, none⟩ ∧ b < w.heap.size ∧ w.cell? ⟨b, off + k * 4, none⟩ = some (.int .i64 xs[k].n) ∧
    w.cell? ⟨b, off + k * 4 + 1, none⟩ = some (.string xs[k].h) ∧ w.cell? ⟨b, off + k * 4 + 2, none⟩ = some (.slice xs[k].lA xs[k].ln xs[k].lc) ∧ w.cell? ⟨b, off + k * 4 + 3, none⟩ = some (.slice xs[k].nA xs[k].nn xs[k].nc) := by
  obtain ⟨b, off, hA, hb, hc⟩ := h.at_ hk
  exact ⟨b, off, hA, hb, by simpa [pageEl] using hc 0 _ rfl, hc 1 _ rfl, hc 2 _ rfl, hc 3 _ rfl⟩
theorem flat_str (xs : List ByteArray) : strEl.flat xs = xs.map Value.string := by
  induction xs with
  | nil => rfl
  | cons x xs ih =>
    simp only [El.flat, List.flatMap_cons, List.map_cons] at ih ⊢
    rw [ih]
    rfl
def pgT (p : GPage) : List ByteArray := p.l ++ p.f
def pgWords (p : GPage) : List ByteArray := (pgT p).flatMap fieldsF
def wdsF (ps : List GPage) : List ByteArray := ps.flatMap pgWords
theorem pgWords_len (p : GPage) : (pgWords p).length = pW p := by
  unfold pgWords pgT pW
  rw [List.flatMap_append, List.length_append, List.length_flatMap, List.length_flatMap]
  rfl
theorem wdsF_len (ps : List GPage) : (wdsF ps).length = psum ps := by
  unfold wdsF psum
  rw [List.length_flatMap]
  congr 1
  exact List.map_congr_left fun p _ => pgWords_len p
theorem wdsF_take {ps : List GPage} {k : Nat} (hk : k < ps.length) : wdsF (ps.take (k + 1)) = wdsF (ps.take k) ++ pgWords ps[k] := by
  unfold wdsF
  rw [List.take_succ_eq_append_getElem hk, List.flatMap_append]
  simp only [List.flatMap_cons, List.flatMap_nil, List.append_nil]
theorem fields_take {l : List ByteArray} {k : Nat} (hk : k < l.length) : (l.take (k + 1)).flatMap fieldsF = (l.take k).flatMap fieldsF ++ fieldsF l[k] := by
  rw [List.take_succ_eq_append_getElem hk, List.flatMap_append]
  simp only [List.flatMap_cons, List.flatMap_nil, List.append_nil]
structure PgIn (ps : List GPage) : Prop where
  sz : ∀ p ∈ ps, ∀ s ∈ pgT p, s.size ≤ 1000
  cnt : ps.length ≤ 1000000
  sum : psum ps ≤ 1000000
  tx : ∀ p ∈ ps, (pgT p).length ≤ 1000000
theorem space_any (r : Int) (w : World) : Calls Tryz.prog 20 #[.int .i32 r] w fun e w' => e = .returned (.bool (decide (r = 32))) ∧ w' = w := by
  go_enter Tryz.func20, Tryz.ntmps20
  go_wp2
  go_ret
  refine ⟨?_, rfl⟩
  first | rfl | (congr 2; by_cases h : r = 32 <;> simp [h])
theorem fields_any (s : ByteArray) (w : World) (hs : s.size ≤ 1000) : Calls Tryz.prog 19 #[.string s, .func (.func 20) #[] #[]] w (RetOwn strEl w (fieldsF s)) := by
  refine (Tryz.strings_FieldsFunc 20 #[] (enters_of Tryz.func20 (by kernel_rfl) rfl) spP s w (by omega) ?_).mono ?_
  · intro W x _
    refine (space_any (x : Int) W).mono ?_
    rintro e w' ⟨rfl, rfl⟩
    refine ⟨?_, 0, rfl⟩
    unfold spP
    congr 2
    by_cases h : x = 32
    · subst h; rfl
    · rw [decide_eq_false h, decide_eq_false (by omega)]
  · rintro e w' ⟨A, rfl, -, hown, hb⟩
    refine ⟨_, rfl, ?_, hb⟩
    unfold Own
    rw [flat_str]
    exact hown
set_option maxRecDepth 100000 in
set_option maxHeartbeats 3200000 in
theorem pwords_any (A : Option Addr) (c : Nat) (L : List (GPage × RPage)) (w : World) (hs : Sl pageEl w A (L.map Prod.snd)) (hp : ∀ x ∈ L, PageO w x.1 x.2) (hi : PgIn (L.map Prod.fst)) :
    Calls Tryz.prog 7 #[.slice A L.length c] w (RetOwn strEl w (wdsF (L.map Prod.fst))) := by
  have hcnt := hi.cnt
  rw [List.length_map] at hcnt
  have Hs := Lib.hid hs
  have Hp := Lib.hid hp
  have Hi := Lib.hid hi
  obtain ⟨R, hR⟩ : ∃ R, wdsF (L.map Prod.fst) = R := ⟨_, rfl⟩
  have Hfin := Lib.hid (show wdsF ((L.map Prod.fst).take L.length) = R by rw [List.take_of_length_le (by rw [List.length_map]; exact Nat.le_refl _)]; exact hR)
  have Hsum := Lib.hid (fun k => (by
    have h := wdsF_len ((L.map Prod.fst).take k)
    have h1 : psum (L.map Prod.fst) = psum ((L.map Prod.fst).take k) + psum ((L.map Prod.fst).drop k) := by rw [← psum_append, List.take_append_drop]
    have h2 := hi.sum
    omega : (wdsF ((L.map Prod.fst).take k)).length ≤ 1000000))
  rw [hR]
  clear hs hp hi hR
  go_enter Tryz.func7, Tryz.ntmps7
  go_wp2
  go_loopw [3, 10] (fun vo vk wr => ∃ (k : Nat) (xs : List ByteArray), k ≤ L.length ∧ vk = .int .i64 (k : Nat) ∧ Own strEl w.heap.size wr vo xs ∧ Hid (xs = wdsF ((L.map Prod.fst).take k)) ∧ Ext w wr) (fun _ vk _ => L.length - (intOf vk).toNat)
  case atStart => exact ⟨0, [], Nat.zero_le _, rfl, Own.nil _, Lib.hid rfl, Ext.refl _⟩
  case round =>
    obtain ⟨k, xs, hk, rfl, hown, Hxs, hext⟩ := hrel
    by_cases hlt : k < L.length
    · obtain ⟨x, hx⟩ : ∃ x, L[k] = x := ⟨_, rfl⟩
      have hmem : x ∈ L := hx ▸ List.getElem_mem hlt
      obtain ⟨b, off, hAe, hbl, u0, u1, u2, u3⟩ := pageAt (Hs.out.ext hext) (k := k) (by simpa using hlt)
      rw [List.getElem_map, hx] at u0 u1 u2 u3
      have hpo := (Hp.out x hmem).ext hext
      have hst := wdsF_take (ps := L.map Prod.fst) (k := k) (by simpa using hlt)
      rw [List.getElem_map, hx] at hst
      have hl := hpo.ln
      have hf := hpo.fn
      have hol := hpo.l
      have hof := hpo.f
      have hsz := Hi.out.sz x.1 (List.mem_map_of_mem hmem)
      have htx := Hi.out.tx x.1 (List.mem_map_of_mem hmem)
      have hbd := Hsum.out (k + 1)
      rw [hst] at hbd
      obtain ⟨p, q⟩ := x
      dsimp only at u0 u1 u2 u3 hl hf hol hof hsz htx hst hbd
      have Hst := Lib.hid hst
      obtain ⟨l1, hl1⟩ : ∃ l, p.l = l := ⟨_, rfl⟩
      obtain ⟨l2, hl2⟩ : ∃ l, p.f = l := ⟨_, rfl⟩
      unfold pgWords at Hst hbd
      unfold pgT at Hst hbd hsz htx
      rw [hl1, hl2] at Hst hbd hsz htx
      rw [hl1] at hl hol
      rw [hl2] at hf hof
      rw [hl] at u2 hol
      rw [hf] at u3 hof
      have e1 : decide ((k : Int) < (L.length : Int)) = true := decide_eq_true (by omega)
      have hxa : Ext wr (wr.alloc (.cells #[.int .i64 q.n, .string q.h, .slice q.lA l1.length q.lc, .slice q.nA l2.length q.nc] 37)) := (Ext.refl wr).alloc _
      have hxb := hxa.alloc (.cells #[.slice q.lA l1.length q.lc, .slice q.nA l2.length q.nc] 34)
      have Hcat := Lib.hid (show Calls Tryz.prog 18 #[.slice (some ⟨wr.heap.size + 1, 0, none⟩) 2 2] _ (RetOwn strEl _ (l1 ++ l2)) from by
        have h := concatS_any (some ⟨wr.heap.size + 1, 0, none⟩) 2 [(q.lA, q.lc, l1), (q.nA, q.nc, l2)] ((wr.alloc (.cells #[.int .i64 q.n, .string q.h, .slice q.lA l1.length q.lc, .slice q.nA l2.length q.nc] 37)).alloc (.cells #[.slice q.lA l1.length q.lc, .slice q.nA l2.length q.nc] 34)) (Sl.new' slsSEl (by simp) (by simp [El.flat, slsSEl])) (fun y hy => by
          simp only [List.mem_cons, List.not_mem_nil, or_false] at hy
          rcases hy with rfl | rfl
          · obtain ⟨A', c', hv, -, hsl⟩ := (hol.ext hxb).form
            rw [Value.slice.injEq] at hv
            obtain ⟨rfl, -, -⟩ := hv
            exact hsl
          · obtain ⟨A', c', hv, -, hsl⟩ := (hof.ext hxb).form
            rw [Value.slice.injEq] at hv
            obtain ⟨rfl, -, -⟩ := hv
            exact hsl) (by simp) (by have e : cat [(q.lA, q.lc, l1), (q.nA, q.nc, l2)] = l1 ++ l2 := (by simp [cat]); rw [e]; rw [List.length_append] at htx ⊢; omega)
        have e : cat [(q.lA, q.lc, l1), (q.nA, q.nc, l2)] = l1 ++ l2 := (by simp [cat])
        rw [e] at h
        exact h)
      subst hAe
      have Hown := Lib.hid hown
      have Hx := Lib.hid (hext.trans hxb)
      have Hxb := Lib.hid hxb
      obtain ⟨tt, htt⟩ : ∃ tt, l1 ++ l2 = tt := ⟨_, rfl⟩
      rw [htt] at Hcat Hst hbd hsz htx
      have Hsz := Lib.hid hsz
      obtain ⟨A0, c0, rfl, -, -⟩ := hown.form
      have Hbd := Lib.hid hbd
      clear hx hst hl hf hol hof hpo hl1 hl2 htt hmem hxa hxb hown hext hsz hbd
      go_wp2_with fail
      refine (Hcat.out).mono ?_
      rintro e w3 ⟨v3, rfl, hown3, hx3⟩
      obtain ⟨A3, c3, rfl, -, -⟩ := hown3.form
      have Ho3 := Lib.hid hown3
      have Hx3 := Lib.hid hx3
      have Hown3 := Lib.hid (Hown.out.ext (Hxb.out.trans hx3))
      have hsz3 := (Hx.out.trans hx3).size
      clear hown3 hx3
      go_wp2_with fail
      have hdif : ∀ g, (Value.slice A3 tt.length c3).ownBlock = some g → (Value.slice A0 xs.length c0).ownBlock ≠ some g := fun g h1 h2 => by
        have h3 := (Ho3.out.bd h1).1
        have h4 := block_lt (Hown.out.bd h2).2.choose_spec
        have h5 := Hxb.out.size
        omega
      have Hft := Lib.hid (fun j (hj : j < tt.length) => fields_take (l := tt) hj)
      have Hfl := Lib.hid (fun j => (show ((tt.take j).flatMap fieldsF).length ≤ (tt.flatMap fieldsF).length from by
        conv => rhs; rw [← List.take_append_drop j tt]
        rw [List.flatMap_append, List.length_append]
        exact Nat.le_add_right _ _))
      have Hcat0 := Lib.hid (show ∀ l : List ByteArray, (wdsF ((L.map Prod.fst).take k) ++ l).length = (wdsF ((L.map Prod.fst).take k)).length + l.length from fun l => List.length_append)
      have Hdif := Lib.hid hdif
      clear hdif
      go_loopw [3, 21] (fun vo vj wi => ∃ (j : Nat) (ys : List ByteArray), j ≤ tt.length ∧ vj = .int .i64 (j : Nat) ∧ Own strEl w.heap.size wi vo ys ∧ Hid (ys = xs ++ (tt.take j).flatMap fieldsF) ∧ Hid (Own strEl 0 wi (.slice A3 tt.length c3) tt) ∧ Hid (∀ g, (Value.slice A3 tt.length c3).ownBlock = some g → vo.ownBlock ≠ some g) ∧ Ext w wi) (fun _ vj _ => tt.length - (intOf vj).toNat)
      case atStart => exact ⟨0, xs, Nat.zero_le _, rfl, Hown3.out, Lib.hid (by simp), Lib.hid (Ho3.out.mono (Nat.zero_le _)), Hdif, Hx.out.trans Hx3.out⟩
      case round =>
        clear Hown3 Hdif Hown Ho3
        obtain ⟨j, ys, hj, rfl, hown, Hys, Hot, Hdif, hext⟩ := hrel
        by_cases hjt : j < tt.length
        · have hst : Sl strEl wr A3 tt := by
            obtain ⟨A', c', hv, -, hsl⟩ := Hot.out.form
            rw [Value.slice.injEq] at hv
            obtain ⟨rfl, -, -⟩ := hv
            exact hsl
          obtain ⟨b3, off3, hAe, hbl3, v0⟩ := strAt hst hjt
          have hszj := Hsz.out tt[j] (List.getElem_mem hjt)
          have hft := Hft.out j hjt
          obtain ⟨s, hs⟩ : ∃ s, tt[j] = s := ⟨_, rfl⟩
          rw [hs] at v0 hszj hft
          have Hft2 := Lib.hid hft
          have Hff := Lib.hid (fields_any s wr hszj)
          have e2 : decide ((j : Int) < (tt.length : Int)) = true := decide_eq_true (by omega)
          subst hAe
          have hyb : ys.length + (fieldsF s).length ≤ 1000000 := by
            have h1 := Hfl.out (j + 1)
            have h2 := Hbd.out
            rw [hft] at h1
            rw [Hys.out, List.length_append]
            rw [List.length_append] at h1 h2
            have h3 := Hxs.out
            rw [h3]
            omega
          obtain ⟨A5, c5, rfl, -, -⟩ := hown.form
          have Hown := Lib.hid hown
          have Hext := Lib.hid hext
          have Hs := Lib.hid hs
          clear hst hft hs hown hext hszj
          go_wp2_with fail
          refine (Hff.out).mono ?_
          rintro e w5 ⟨v5, rfl, hown5, hx5⟩
          obtain ⟨A6, c6, rfl, -, hsl6⟩ := hown5.form
          have Ho6 := Lib.hid (Hown.out.ext hx5)
          have hz6 := (Hext.out.trans hx5).size
          have Hx5 := Lib.hid hx5
          have Hsl6 := Lib.hid hsl6
          obtain ⟨ff, hff⟩ : ∃ ff, fieldsF s = ff := ⟨_, rfl⟩
          rw [hff] at Hft2 Hsl6 hyb ⊢
          clear hown5 hsl6 hff hx5
          go_wp2_with (refine wpList_appAt strEl rfl (.tmp 25) (.tmp 27) rfl c6 rfl Ho6.out rfl Hsl6.out (by omega) hz6 ?_; intro v7 w7 h1 h2 h3; replace h3 : v7.ownBlock = (Value.slice A5 ys.length c5).ownBlock ∨ v7.ownBlock = some w5.heap.size := h3)
          go_roundw
          case rel =>
            refine ⟨j + 1, _, by omega, by go_num, h1, Lib.hid (by rw [Hft2.out, Hys.out, List.append_assoc]), Lib.hid ?_, Lib.hid fun g hg h4 => ?_, (Hext.out.trans Hx5.out).grown h2 hz6 fun g hg => (Ho6.out.bd hg).1⟩
            · exact (Hot.out.ext Hx5.out).keep fun g hg => h2.block g (block_lt ((Hot.out.ext Hx5.out).bd hg).2.choose_spec) (fun e => Hdif.out g hg e.symm)
            · rcases h3 with e | e
              · exact Hdif.out g hg (by rw [← e]; exact h4)
              · rw [e] at h4
                cases h4
                have := block_lt ((Hot.out.ext Hx5.out).bd hg).2.choose_spec
                omega
          case measure => simp [intOf]; omega
        · have e2 : decide ((j : Int) < (tt.length : Int)) = false := decide_eq_false (by omega)
          have hjn : j = tt.length := by omega
          have Hys2 := Lib.hid (show ys = wdsF ((L.map Prod.fst).take (k + 1)) by rw [Hys.out, hjn, List.take_length, Hst.out, Hxs.out])
          clear hjn
          have Hown := Lib.hid hown
          have Hext := Lib.hid hext
          clear hown hext
          go_wp2
          go_roundw
          case rel => exact ⟨k + 1, ys, by omega, by go_num, Hown.out, Hys2, Hext.out⟩
          case measure => simp [intOf]; omega
    · have e1 : decide ((k : Int) < (L.length : Int)) = false := decide_eq_false (by omega)
      have hkn : k = L.length := by omega
      have HR := Lib.hid (show xs = R by rw [Hxs.out, hkn]; exact Hfin.out)
      clear hkn
      have Hown := Lib.hid hown
      have Hext := Lib.hid hext
      clear hown hext
      go_wp2
      go_ret
      exact ⟨_, rfl, by rw [← HR.out]; exact Hown.out, Hext.out⟩
end Go.Proofs.YtjhdamjbljafhaaGreatDoor
namespace Go.Proofs.YtjhdamjbljafhaaGreatDoor
open Go.RowKit
def bareL (l : List UInt8) : List UInt8 := Lib.trimRightS (Lib.trimLeftB l 40) [44, 59, 46, 58, 41]
def bareF (s : ByteArray) : ByteArray := ⟨(bareL s.data.toList).toArray⟩
theorem setZero : ∀ w, (zeroValue 119).run Tryz.prog w = .ok (.agg (Array.replicate 256 (.bool false))) w := fun _ => by kernel_rfl
theorem trimL_any (s : ByteArray) (w : World) : Calls Tryz.prog 39 #[.string s, .string ⟨#[40]⟩] w fun e w' => e = .returned (.string ⟨(Lib.trimLeftB s.data.toList 40).toArray⟩) ∧ Ext w w' :=
  (Tryz.strings_TrimLeft_one s 40 (by decide) w).mono fun e w' ⟨h1, h2⟩ => ⟨h1, h2 ▸ Ext.refl _⟩
theorem trimR_any (s : ByteArray) (w : World) (hs : s.size ≤ 1000000) : Calls Tryz.prog 38 #[.string s, .string ⟨#[44, 59, 46, 58, 41]⟩] w fun e w' => e = .returned (.string ⟨(Lib.trimRightS s.data.toList [44, 59, 46, 58, 41]).toArray⟩) ∧ Ext w w' := by
  have h := Any.strings_TrimRight_ascii Tryz.lays162 setZero (by kernel_rfl) s ⟨#[44, 59, 46, 58, 41]⟩ w (by omega) (by decide) (fun j b hb => by
    rcases j with _ | _ | _ | _ | _ | j <;> simp at hb <;> subst hb <;> decide)
  exact h.mono fun e w' ⟨h1, h2⟩ => ⟨h1, h2⟩
theorem dropWhile_len {α : Type} (p : α → Bool) : ∀ l : List α, (l.dropWhile p).length ≤ l.length
  | [] => Nat.le_refl _
  | x :: l => by
    rw [List.dropWhile_cons]
    split
    · exact Nat.le_succ_of_le (dropWhile_len p l)
    · exact Nat.le_refl _
theorem bare_any (s : ByteArray) (w : World) (hs : s.size ≤ 1000000) : Calls Tryz.prog 21 #[.string s] w fun e w' => e = .returned (.string (bareF s)) ∧ Ext w w' := by
  have h1 := trimL_any s w
  have h2 := fun wq => trimR_any ⟨(Lib.trimLeftB s.data.toList 40).toArray⟩ wq (by
    have := dropWhile_len (· == (40 : UInt8)) s.data.toList
    simp only [ByteArray.size, List.size_toArray]
    unfold Lib.trimLeftB
    have e : s.data.toList.length = s.size := Array.length_toList
    omega)
  have H1 := Lib.hid h1
  have H2 := Lib.hid h2
  have Hb := Lib.hid (show bareF s = ⟨(Lib.trimRightS (Lib.trimLeftB s.data.toList 40) [44, 59, 46, 58, 41]).toArray⟩ from rfl)
  clear h1 h2
  go_enter Tryz.func21, Tryz.ntmps21
  go_wp2_with fail
  refine (H1.out).mono ?_
  rintro e w2 ⟨rfl, hx2⟩
  have H3 := Lib.hid (H2.out w2)
  obtain ⟨t, ht⟩ : ∃ t : ByteArray, ⟨(Lib.trimLeftB s.data.toList 40).toArray⟩ = t := ⟨_, rfl⟩
  rw [ht] at H3 ⊢
  go_wp2_with fail
  refine (H3.out).mono ?_
  rintro e w3 ⟨rfl, hx3⟩
  obtain ⟨z, hz⟩ : ∃ z : ByteArray, (⟨(Lib.trimRightS (Lib.trimLeftB s.data.toList 40) [44, 59, 46, 58, 41]).toArray⟩ : ByteArray) = z := ⟨_, rfl⟩
  rw [hz]
  have Hz := Lib.hid (show z = bareF s by rw [Hb.out, ← hz])
  have Hx := Lib.hid (hx2.trans hx3)
  clear hz ht hx2 hx3
  go_wp2
  go_ret
  exact ⟨by rw [← Hz.out]; rfl, Hx.out⟩
end Go.Proofs.YtjhdamjbljafhaaGreatDoor
namespace Go.Proofs
open Go.Shelf
def Tryz.keysS_ren : Go.Shelf.Ren := ⟨fun | 7 => 23 | 10 => 42 | n => n, fun | 23 => 59 | 26 => 9 | 3 => 40 | 28 => 63 | 0 => 0 | 27 => 62 | 33 => 83 | 4 => 4 | n => n, fun | n => n⟩
theorem Tryz.keysS : Go.Proofs.SlLaysZ.n7 Tryz.prog Tryz.keysS_ren := {
  mixed := by kernel_rfl
  f7 := ⟨Tryz.f23.name, by decide, Tryz.func23.trans (congrArg some (by kernel_rfl))⟩
  f10 := ⟨Tryz.f42.name, by decide, Tryz.func42.trans (congrArg some (by kernel_rfl))⟩
  t0 := Tryz.underlying0
  a0 := Tryz.isAgg0
  z0 := Tryz.sizeOf0
  v0 := Tryz.zeroValue0
  t4 := Tryz.underlying4
  a4 := Tryz.isAgg4
  z4 := Tryz.sizeOf4
  v4 := Tryz.zeroValue4
  t23 := Tryz.underlying59
  a23 := Tryz.isAgg59
  z23 := Tryz.sizeOf59
  v23 := Tryz.zeroValue59
  t26 := Tryz.underlying9
  a26 := Tryz.isAgg9
  z26 := Tryz.sizeOf9
  v26 := Tryz.zeroValue9
  t27 := Tryz.underlying62
  a27 := Tryz.isAgg62
  z27 := Tryz.sizeOf62
  v27 := Tryz.zeroValue62
  t28 := Tryz.underlying63
  a28 := Tryz.isAgg63
  z28 := Tryz.sizeOf63
  v28 := Tryz.zeroValue63
  t33 := Tryz.underlying83
  a33 := Tryz.isAgg83
  z33 := Tryz.sizeOf83
  v33 := Tryz.zeroValue83 }
def Tryz.sortedS_ren : Go.Shelf.Ren := ⟨fun | 6 => 22 | 8 => 40 | 9 => 41 | 11 => 78 | 13 => 80 | 12 => 79 | 23 => 117 | 24 => 118 | 14 => 108 | 15 => 109 | 16 => 110 | 17 => 111 | 18 => 112 | 19 => 113 | 20 => 114 | 21 => 115 | 22 => 116 | 25 => 149 | 26 => 150 | 27 => 151 | 28 => 152 | 29 => 153 | 30 => 154 | 31 => 182 | n => n, fun | 26 => 9 | 28 => 63 | 24 => 34 | 0 => 0 | 3 => 3 | 37 => 127 | 48 => 160 | 50 => 162 | 4 => 4 | 40 => 152 | 39 => 151 | 45 => 157 | 5 => 5 | 9 => 9 | 51 => 184 | 55 => 188 | 57 => 220 | 58 => 221 | 33 => 83 | n => n, fun | n => n⟩
theorem Tryz.sortedS : Go.Proofs.SlLaysZ.n6 Tryz.prog Tryz.sortedS_ren := {
  mixed := by kernel_rfl
  f6 := ⟨Tryz.f22.name, by decide, Tryz.func22.trans (congrArg some (by kernel_rfl))⟩
  f8 := ⟨Tryz.f40.name, by decide, Tryz.func40.trans (congrArg some (by kernel_rfl))⟩
  f11 := ⟨Tryz.f78.name, by decide, Tryz.func78.trans (congrArg some (by kernel_rfl))⟩
  t0 := Tryz.underlying0
  a0 := Tryz.isAgg0
  z0 := Tryz.sizeOf0
  v0 := Tryz.zeroValue0
  t24 := Tryz.underlying34
  a24 := Tryz.isAgg34
  z24 := Tryz.sizeOf34
  v24 := Tryz.zeroValue34
  t26 := Tryz.underlying9
  a26 := Tryz.isAgg9
  z26 := Tryz.sizeOf9
  v26 := Tryz.zeroValue9
  t28 := Tryz.underlying63
  a28 := Tryz.isAgg63
  z28 := Tryz.sizeOf63
  v28 := Tryz.zeroValue63
  i26 := by kernel_rfl }
def Tryz.sortS_ren : Go.Shelf.Ren := ⟨fun | 6 => 41 | 8 => 80 | 9 => 79 | 19 => 117 | 20 => 118 | 21 => 108 | 22 => 109 | 23 => 110 | 24 => 111 | 25 => 112 | 26 => 113 | 27 => 114 | 28 => 115 | 29 => 116 | 36 => 149 | 31 => 150 | 32 => 151 | 37 => 152 | 38 => 153 | 39 => 154 | 41 => 182 | n => n, fun | 27 => 34 | 29 => 9 | 3 => 3 | 32 => 127 | 26 => 34 | 0 => 0 | 44 => 160 | 46 => 162 | 4 => 4 | 36 => 152 | 35 => 151 | 41 => 157 | 5 => 5 | 9 => 9 | 53 => 184 | 57 => 188 | 63 => 220 | 64 => 221 | n => n, fun | n => n⟩
theorem Tryz.sortS : Go.Proofs.SlLaysM.n6 Tryz.prog Tryz.sortS_ren := {
  mixed := by kernel_rfl
  f6 := ⟨Tryz.f41.name, by decide, Tryz.func41.trans (congrArg some (by kernel_rfl))⟩
  f8 := Tryz.func80.trans (congrArg some (by kernel_rfl))
  f9 := ⟨Tryz.f79.name, by decide, Tryz.func79.trans (congrArg some (by kernel_rfl))⟩
  f19 := Tryz.func117.trans (congrArg some (by kernel_rfl))
  f20 := Tryz.func118.trans (congrArg some (by kernel_rfl))
  f21 := ⟨Tryz.f108.name, by decide, Tryz.func108.trans (congrArg some (by kernel_rfl))⟩
  f22 := ⟨Tryz.f109.name, by decide, Tryz.func109.trans (congrArg some (by kernel_rfl))⟩
  f23 := ⟨Tryz.f110.name, by decide, Tryz.func110.trans (congrArg some (by kernel_rfl))⟩
  f24 := ⟨Tryz.f111.name, by decide, Tryz.func111.trans (congrArg some (by kernel_rfl))⟩
  f25 := ⟨Tryz.f112.name, by decide, Tryz.func112.trans (congrArg some (by kernel_rfl))⟩
  f26 := ⟨Tryz.f113.name, by decide, Tryz.func113.trans (congrArg some (by kernel_rfl))⟩
  f27 := ⟨Tryz.f114.name, by decide, Tryz.func114.trans (congrArg some (by kernel_rfl))⟩
  f28 := ⟨Tryz.f115.name, by decide, Tryz.func115.trans (congrArg some (by kernel_rfl))⟩
  f29 := ⟨Tryz.f116.name, by decide, Tryz.func116.trans (congrArg some (by kernel_rfl))⟩
  f31 := Tryz.func150.trans (congrArg some (by kernel_rfl))
  f32 := Tryz.func151.trans (congrArg some (by kernel_rfl))
  f36 := ⟨Tryz.f149.name, by decide, Tryz.func149.trans (congrArg some (by kernel_rfl))⟩
  f37 := ⟨Tryz.f152.name, by decide, Tryz.func152.trans (congrArg some (by kernel_rfl))⟩
  f38 := ⟨Tryz.f153.name, by decide, Tryz.func153.trans (congrArg some (by kernel_rfl))⟩
  f39 := ⟨Tryz.f154.name, by decide, Tryz.func154.trans (congrArg some (by kernel_rfl))⟩
  f41 := ⟨Tryz.f182.name, by decide, Tryz.func182.trans (congrArg some (by kernel_rfl))⟩
  t0 := Tryz.underlying0
  a0 := Tryz.isAgg0
  z0 := Tryz.sizeOf0
  v0 := Tryz.zeroValue0
  t3 := Tryz.underlying3
  a3 := Tryz.isAgg3
  z3 := Tryz.sizeOf3
  v3 := Tryz.zeroValue3
  t4 := Tryz.underlying4
  a4 := Tryz.isAgg4
  z4 := Tryz.sizeOf4
  v4 := Tryz.zeroValue4
  t5 := Tryz.underlying5
  a5 := Tryz.isAgg5
  z5 := Tryz.sizeOf5
  v5 := Tryz.zeroValue5
  t9 := Tryz.underlying9
  a9 := Tryz.isAgg9
  z9 := Tryz.sizeOf9
  v9 := Tryz.zeroValue9
  t26 := Tryz.underlying34
  a26 := Tryz.isAgg34
  z26 := Tryz.sizeOf34
  v26 := Tryz.zeroValue34
  t27 := Tryz.underlying34
  a27 := Tryz.isAgg34
  z27 := Tryz.sizeOf34
  v27 := Tryz.zeroValue34
  t29 := Tryz.underlying9
  a29 := Tryz.isAgg9
  z29 := Tryz.sizeOf9
  v29 := Tryz.zeroValue9
  t32 := Tryz.underlying127
  a32 := Tryz.isAgg127
  z32 := Tryz.sizeOf127
  v32 := Tryz.zeroValue127
  t35 := Tryz.underlying151
  a35 := Tryz.isAgg151
  z35 := Tryz.sizeOf151
  v35 := Tryz.zeroValue151
  t36 := Tryz.underlying152
  a36 := Tryz.isAgg152
  z36 := Tryz.sizeOf152
  v36 := Tryz.zeroValue152
  t41 := Tryz.underlying157
  a41 := Tryz.isAgg157
  z41 := Tryz.sizeOf157
  v41 := Tryz.zeroValue157
  t44 := Tryz.underlying160
  a44 := Tryz.isAgg160
  z44 := Tryz.sizeOf160
  v44 := Tryz.zeroValue160
  t46 := Tryz.underlying162
  a46 := Tryz.isAgg162
  z46 := Tryz.sizeOf162
  v46 := Tryz.zeroValue162
  t53 := Tryz.underlying184
  a53 := Tryz.isAgg184
  z53 := Tryz.sizeOf184
  v53 := Tryz.zeroValue184
  t57 := Tryz.underlying188
  a57 := Tryz.isAgg188
  z57 := Tryz.sizeOf188
  v57 := Tryz.zeroValue188
  t63 := Tryz.underlying220
  a63 := Tryz.isAgg220
  z63 := Tryz.sizeOf220
  v63 := Tryz.zeroValue220
  t64 := Tryz.underlying221
  a64 := Tryz.isAgg221
  z64 := Tryz.sizeOf221
  v64 := Tryz.zeroValue221 }
def Tryz.sortI_ren : Go.Shelf.Ren := ⟨fun | 5 => 82 | 8 => 80 | 7 => 120 | 19 => 117 | 20 => 118 | 10 => 155 | 11 => 156 | 12 => 157 | 13 => 158 | 14 => 159 | 15 => 160 | 16 => 161 | 17 => 162 | 18 => 163 | 30 => 183 | 31 => 150 | 32 => 151 | 33 => 184 | 34 => 185 | 35 => 186 | 40 => 195 | n => n, fun | 23 => 40 | 25 => 3 | 3 => 3 | 32 => 127 | 22 => 40 | 0 => 0 | 44 => 160 | 46 => 162 | 4 => 4 | 36 => 152 | 35 => 151 | 41 => 157 | 5 => 5 | 9 => 9 | 53 => 184 | 57 => 188 | 63 => 220 | 64 => 221 | n => n, fun | n => n⟩
theorem Tryz.sortI : Go.Proofs.SlLaysM.n5 Tryz.prog Tryz.sortI_ren := {
  mixed := by kernel_rfl
  f5 := ⟨Tryz.f82.name, by decide, Tryz.func82.trans (congrArg some (by kernel_rfl))⟩
  f7 := ⟨Tryz.f120.name, by decide, Tryz.func120.trans (congrArg some (by kernel_rfl))⟩
  f8 := Tryz.func80.trans (congrArg some (by kernel_rfl))
  f10 := ⟨Tryz.f155.name, by decide, Tryz.func155.trans (congrArg some (by kernel_rfl))⟩
  f11 := ⟨Tryz.f156.name, by decide, Tryz.func156.trans (congrArg some (by kernel_rfl))⟩
  f12 := ⟨Tryz.f157.name, by decide, Tryz.func157.trans (congrArg some (by kernel_rfl))⟩
  f13 := ⟨Tryz.f158.name, by decide, Tryz.func158.trans (congrArg some (by kernel_rfl))⟩
  f14 := ⟨Tryz.f159.name, by decide, Tryz.func159.trans (congrArg some (by kernel_rfl))⟩
  f15 := ⟨Tryz.f160.name, by decide, Tryz.func160.trans (congrArg some (by kernel_rfl))⟩
  f16 := ⟨Tryz.f161.name, by decide, Tryz.func161.trans (congrArg some (by kernel_rfl))⟩
  f17 := ⟨Tryz.f162.name, by decide, Tryz.func162.trans (congrArg some (by kernel_rfl))⟩
  f18 := ⟨Tryz.f163.name, by decide, Tryz.func163.trans (congrArg some (by kernel_rfl))⟩
  f19 := Tryz.func117.trans (congrArg some (by kernel_rfl))
  f20 := Tryz.func118.trans (congrArg some (by kernel_rfl))
  f30 := ⟨Tryz.f183.name, by decide, Tryz.func183.trans (congrArg some (by kernel_rfl))⟩
  f31 := Tryz.func150.trans (congrArg some (by kernel_rfl))
  f32 := Tryz.func151.trans (congrArg some (by kernel_rfl))
  f33 := ⟨Tryz.f184.name, by decide, Tryz.func184.trans (congrArg some (by kernel_rfl))⟩
  f34 := ⟨Tryz.f185.name, by decide, Tryz.func185.trans (congrArg some (by kernel_rfl))⟩
  f35 := ⟨Tryz.f186.name, by decide, Tryz.func186.trans (congrArg some (by kernel_rfl))⟩
  f40 := ⟨Tryz.f195.name, by decide, Tryz.func195.trans (congrArg some (by kernel_rfl))⟩
  t0 := Tryz.underlying0
  a0 := Tryz.isAgg0
  z0 := Tryz.sizeOf0
  v0 := Tryz.zeroValue0
  t3 := Tryz.underlying3
  a3 := Tryz.isAgg3
  z3 := Tryz.sizeOf3
  v3 := Tryz.zeroValue3
  t4 := Tryz.underlying4
  a4 := Tryz.isAgg4
  z4 := Tryz.sizeOf4
  v4 := Tryz.zeroValue4
  t5 := Tryz.underlying5
  a5 := Tryz.isAgg5
  z5 := Tryz.sizeOf5
  v5 := Tryz.zeroValue5
  t9 := Tryz.underlying9
  a9 := Tryz.isAgg9
  z9 := Tryz.sizeOf9
  v9 := Tryz.zeroValue9
  t22 := Tryz.underlying40
  a22 := Tryz.isAgg40
  z22 := Tryz.sizeOf40
  v22 := Tryz.zeroValue40
  t23 := Tryz.underlying40
  a23 := Tryz.isAgg40
  z23 := Tryz.sizeOf40
  v23 := Tryz.zeroValue40
  t25 := Tryz.underlying3
  a25 := Tryz.isAgg3
  z25 := Tryz.sizeOf3
  v25 := Tryz.zeroValue3
  t32 := Tryz.underlying127
  a32 := Tryz.isAgg127
  z32 := Tryz.sizeOf127
  v32 := Tryz.zeroValue127
  t35 := Tryz.underlying151
  a35 := Tryz.isAgg151
  z35 := Tryz.sizeOf151
  v35 := Tryz.zeroValue151
  t36 := Tryz.underlying152
  a36 := Tryz.isAgg152
  z36 := Tryz.sizeOf152
  v36 := Tryz.zeroValue152
  t41 := Tryz.underlying157
  a41 := Tryz.isAgg157
  z41 := Tryz.sizeOf157
  v41 := Tryz.zeroValue157
  t44 := Tryz.underlying160
  a44 := Tryz.isAgg160
  z44 := Tryz.sizeOf160
  v44 := Tryz.zeroValue160
  t46 := Tryz.underlying162
  a46 := Tryz.isAgg162
  z46 := Tryz.sizeOf162
  v46 := Tryz.zeroValue162
  t53 := Tryz.underlying184
  a53 := Tryz.isAgg184
  z53 := Tryz.sizeOf184
  v53 := Tryz.zeroValue184
  t57 := Tryz.underlying188
  a57 := Tryz.isAgg188
  z57 := Tryz.sizeOf188
  v57 := Tryz.zeroValue188
  t63 := Tryz.underlying220
  a63 := Tryz.isAgg220
  z63 := Tryz.sizeOf220
  v63 := Tryz.zeroValue220
  t64 := Tryz.underlying221
  a64 := Tryz.isAgg221
  z64 := Tryz.sizeOf221
  v64 := Tryz.zeroValue221 }
end Go.Proofs
