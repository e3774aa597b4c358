/- own: the findings of one unit: the walk. -/
import Derived.Test.YtiacmahfjcolaaaDoorMap10
namespace Go.Proofs.YtiacmahfjcolaaaDoor
open Go.RowKit Go.Maps

theorem findW_drop {id : GId} {ks : List (Int × ByteArray)} {seen : List ByteArray} {l : List GWord} {k : Nat} (h : k < l.length) : findW id ks k seen (l.drop k) =
    if ancB l[k].t = true then (if ancT l[k].t ∈ seen then [⟨k, id.a, id.i, id.n, 5, ancT l[k].t⟩] else if noteI ks (ancT l[k].t) < 0 then [⟨k, id.a, id.i, id.n, 4, ancT l[k].t⟩] else []) ++ findW id ks (k + 1) (seen ++ [ancT l[k].t]) (l.drop (k + 1)) else findW id ks (k + 1) seen (l.drop (k + 1)) := by
  rw [List.drop_eq_getElem_cons h, findW]
theorem findK_drop {ks : List (Int × ByteArray)} {seen : List ByteArray} {l : List GUnit} {k : Nat} (h : k < l.length) : findK ks seen k (l.drop k) =
    (if l[k].kind = 7 ∧ (l[k].label ∉ seen ∨ noteI ks l[k].label ≠ k) then [⟨k, l[k].id.a, l[k].id.i, l[k].id.n, 7, l[k].label⟩] else []) ++ findK ks seen (k + 1) (l.drop (k + 1)) := by
  rw [List.drop_eq_getElem_cons h, findK]
theorem SetB.mono {w : World} {B n m : Nat} {g : ByteArray → Bool} (h : SetB w B n g) (hm : n ≤ m) : SetB w B m g := by
  obtain ⟨D, h1, h2⟩ := h
  exact ⟨D, h1.mono hm, h2⟩

/-- where a walk through a unit stands that holds its box, a map of the call's own behind it, and a row of findings -/
structure OInv (w : World) (r : RUnit) (n : Nat) (g : ByteArray → Bool) (acc : List GFind) (vo : Value) (wr : World) : Prop where
  ext : Ext w wr
  box : wr.heap[w.heap.size]? = some (.cells r.cells.toArray 27 (0, 0))
  set : SetB wr (w.heap.size + 1) n g
  own : Own findEl (w.heap.size + 2) wr vo acc
section
variable {w wr wq w' : World} {r : RUnit} {n n' : Nat} {g g' : ByteArray → Bool} {acc acc' : List GFind} {vo v' : Value}
theorem OInv.grow (h : OInv w r n g acc vo wr) (he : Ext wr w') : OInv w r n g acc vo w' := ⟨h.ext.trans he, (he.block (block_lt h.box)).trans h.box, h.set.ext he, h.own.ext he⟩
theorem OInv.app (h : OInv w r n g acc vo wr) (he : Ext wr wq) (hb : Below (w.heap.size + 2) wq w') (hown : Own findEl (w.heap.size + 2) w' v' acc') : OInv w r n g acc' v' w' :=
  ⟨(h.ext.trans he).trans' hb, (hb.block w.heap.size (by omega)).trans (h.grow he).box, (h.grow he).set.keep (hb.block _ (by omega)), hown⟩
theorem OInv.upd (h : OInv w r n g acc vo wr) (hset : SetB w' (w.heap.size + 1) n' g') (hg : wr.grownBy w' (some (w.heap.size + 1))) : OInv w r n' g' acc vo w' := by
  have h1 := block_lt h.box
  refine ⟨⟨hg.os.trans h.ext.os, hg.tape.trans h.ext.tape, hg.output.trans h.ext.output, Nat.le_trans h.ext.size hg.size, fun k hk => ?_⟩, (hg.block _ h1 (by simp)).trans h.box, hset, h.own.keep fun k hk => ?_⟩
  · exact (hg.block k (by omega) (by simp; omega)).trans (h.ext.block hk)
  · have h2 := h.own.lt k hk
    exact hg.block k h2.2 (by simp; omega)
theorem OInv.mono (h : OInv w r n g acc vo wr) (hm : n ≤ n') : OInv w r n' g acc vo wr := ⟨h.ext, h.box, h.set.mono hm, h.own⟩
end

set_option maxRecDepth 100000 in
set_option maxHeartbeats 6400000 in
theorem own_any (u : GUnit) (r : RUnit) (w : World) (hr : Reads w u r) (hsh : shortW u.words) (hlw : u.words.length ≤ 1048576) (hlk : u.kids.length ≤ 1048576) (hlab : ∀ x ∈ u.kids, x.label.size ≤ 1048576) :
    Calls Tryd.prog 42 #[.agg r.cells.toArray] w (RetOwn findEl w (ownF u)) := by
  have hru := hr
  obtain ⟨a, i, n, kd, lb, hd, wd, kids⟩ := u
  rw [Reads] at hr
  obtain ⟨⟨hra, hri, hrn, -, -⟩, -, ⟨hwn, hwc, hws⟩, hkn, hkc, rs, hrs, hall⟩ := hr
  have hks := hall.keys
  have hrl := ReadsAll.length hall
  obtain ⟨ra, ri, rn, rk, rl, hdA, hn, hc, wA, wn, wc, kA, kn, kc⟩ := r
  dsimp only at hra hri hrn hwn hwc hws hkn hkc hrs hall
  simp only [GUnit.words, GUnit.kids] at hsh hlw hlk hlab
  subst hra hri hrn hwn
  rw [← hrl] at hkn hlk
  subst hkn
  have hnd := fun s w' (he : Ext w w') => noted_any _ _ s w' (Reads.ext he _ _ hru) (by simp only [GUnit.kids]; omega)
  have hkeys : (GUnit.mk ra ri rn kd lb hd wd kids).keys = kids.map keyU := rfl
  have Hnd : Hid (∀ (s : ByteArray) (w' : World), Ext w w' → Calls Tryd.prog 44 #[.agg #[.int .i64 ra, .int .i64 ri, .int .i64 rn, .int .i64 rk, .string rl, .slice hdA hn hc, .slice wA wd.length wc, .slice kA rs.length kc], .string s] w' fun e w'' =>
      ∃ q : RUnit, e = .returned (.tuple #[.agg #[.int .i64 q.a, .int .i64 q.i, .int .i64 q.n, .int .i64 q.kind, .string q.label, .slice q.hA q.hn q.hc, .slice q.wA q.wn q.wc, .slice q.kA q.kn q.kc], .bool (decide (0 ≤ noteI (kids.map keyU) s))]) ∧ Ext w' w'') := Lib.hid fun s w' he => (hnd s w' he).mono fun e w'' ⟨q, h1, h2, _⟩ => ⟨q, h1, h2⟩
  obtain ⟨ks, hksd⟩ : ∃ ks, kids.map keyU = ks := ⟨_, rfl⟩
  rw [hksd] at hks Hnd hkeys
  obtain ⟨R, hR⟩ : ∃ R, ownF (.mk ra ri rn kd lb hd wd kids) = R := ⟨_, rfl⟩
  rw [hR]
  have HR : Hid (R = [] ++ findW ⟨ra, ri, rn⟩ ks 0 [] wd ++ findK ks (anchL wd) 0 kids) := Lib.hid (by rw [← hR, ownF, hkeys]; rfl)
  have Hsh := Lib.hid hsh
  have Hlab := Lib.hid hlab
  have Hall := Lib.hid hall
  have Hrl := Lib.hid hrl
  have Hks := Lib.hid hks
  have hmm := @run_makeMap Tryd.prog
  have h0 : OInv w ⟨ra, ri, rn, rk, rl, hdA, hn, hc, wA, wd.length, wc, kA, rs.length, kc⟩ 0 (fun _ => false) [] (.slice none 0 0) ((w.alloc (.cells #[.int .i64 ra, .int .i64 ri, .int .i64 rn, .int .i64 rk, .string rl, .slice hdA hn hc, .slice wA wd.length wc, .slice kA rs.length kc] 27)).alloc (.map #[] 0)) := by
    have e1 : (w.alloc (.cells #[.int .i64 ra, .int .i64 ri, .int .i64 rn, .int .i64 rk, .string rl, .slice hdA hn hc, .slice wA wd.length wc, .slice kA rs.length kc] 27)).heap.size = w.heap.size + 1 := by simp
    refine ⟨((Ext.refl w).alloc _).alloc _, (((Ext.refl (w.alloc (.cells #[.int .i64 ra, .int .i64 ri, .int .i64 rn, .int .i64 rk, .string rl, .slice hdA hn hc, .slice wA wd.length wc, .slice kA rs.length kc] 27))).alloc _).block (by simp)).trans (heap_alloc_new w _), ?_, Own.nil _⟩
    have := SetB.made (w.alloc (.cells #[.int .i64 ra, .int .i64 ri, .int .i64 rn, .int .i64 rk, .string rl, .slice hdA hn hc, .slice wA wd.length wc, .slice kA rs.length kc] 27))
    rwa [e1] at this
  have Hl : Hid (kids.length = rs.length) := Lib.hid hrl.symm
  clear hnd hru hkeys hksd hR hsh hlab hall hrl hks hwc hkc
  simp only [RUnit.cells]
  go_enter Tryd.func42, Tryd.ntmps42
  go_wp2
  go_loopw [3, 18] (fun vo vk wr => ∃ (k : Nat) (acc : List GFind) (g : ByteArray → Bool), k ≤ wd.length ∧ vk = .int .i64 (k : Nat) ∧ Hid (R = acc ++ findW ⟨ra, ri, rn⟩ ks k (anchL (wd.take k)) (wd.drop k) ++ findK ks (anchL wd) 0 kids) ∧
    acc.length ≤ k ∧ Hid (∀ s, g s = decide (s ∈ anchL (wd.take k))) ∧ OInv w ⟨ra, ri, rn, rk, rl, hdA, hn, hc, wA, wd.length, wc, kA, rs.length, kc⟩ k g acc vo wr) (fun _ vk _ => wd.length - (intOf vk).toNat)
  case atStart => exact ⟨0, [], _, Nat.zero_le _, rfl, HR, Nat.le_refl _, Lib.hid (fun s => by simp [anchL]), h0⟩
  case round =>
    clear h0
    obtain ⟨k, acc, g, hk, rfl, Hf, hacc, Hg, hI⟩ := hrel
    have hext := hI.ext
    by_cases hlt : k < wd.length
    · obtain ⟨b, off, rfl, hb, c0, c1, c2, c3⟩ := wordAt (hws.ext hext) hlt
      have hfw := findW_drop (id := ⟨ra, ri, rn⟩) (ks := ks) (seen := anchL (wd.take k)) hlt
      have hta := anchL_take hlt
      have hxs := Hsh.out wd[k] (List.getElem_mem hlt)
      obtain ⟨x, hx⟩ : ∃ x, wd[k] = x := ⟨_, rfl⟩
      rw [hx] at c0 c1 c2 c3 hfw hta hxs
      have Hpa := Lib.hid (fun w => parseAnchor_any x.t w (by omega))
      have hTm : (ancT x.t).size ≤ maxLen := by
        unfold ancT maxLen
        split
        · rw [bstrF_size, List.length_drop]
          have : x.t.data.toList.length = x.t.size := Array.length_toList
          omega
        · exact Nat.zero_le _
      simp only [show RetAnc x.t = fun w e w' => e = .returned (.tuple #[.string (ancT x.t), .bool (ancB x.t)]) ∧ Ext w w' from rfl] at Hpa
      obtain ⟨T, hT⟩ : ∃ T, ancT x.t = T := ⟨_, rfl⟩
      obtain ⟨B, hB⟩ : ∃ B, ancB x.t = B := ⟨_, rfl⟩
      rw [hT, hB] at Hpa hta hfw
      rw [hT] at hTm
      have Hfw := Lib.hid (Hf.out.trans (by rw [hfw]))
      have Hta := Lib.hid hta
      have d1 : decide ((k : Int) < (wd.length : Int)) = true := decide_eq_true (by omega)
      clear hx hta hT hB hxs hfw Hf
      cases B with
      | false =>
        have Hta2 := Lib.hid (show anchL (wd.take (k + 1)) = anchL (wd.take k) by rw [Hta.out]; simp)
        have Hg5 : Hid (∀ s, g s = decide (s ∈ anchL (wd.take (k + 1)))) := Lib.hid fun s => by rw [Hta2.out]; exact Hg.out s
        go_wp2_with fail
        refine (Hpa.out _).mono ?_
        rintro e w2 ⟨rfl, hx2⟩
        have hI2 := hI.grow (((Ext.refl _).alloc _).trans hx2)
        go_wp2
        go_roundw
        case rel => exact ⟨k + 1, acc, g, by omega, by go_num, Lib.hid (by rw [Hfw.out, Hta2.out]; simp), by omega, Hg5, hI2.mono (Nat.le_succ _)⟩
        case measure => simp [intOf]; omega
      | true =>
        have Hta2 := Lib.hid (show anchL (wd.take (k + 1)) = anchL (wd.take k) ++ [T] from Hta.out)
        have Hg5 : Hid (∀ s, (fun t => if t = T then true else g t) s = decide (s ∈ anchL (wd.take (k + 1)))) := Lib.hid fun s => by
          rw [Hta2.out]
          simp only [List.mem_append, List.mem_singleton]
          by_cases e : s = T
          · simp [e]
          · rw [if_neg e, Hg.out s]; simp [e]
        have Hnd2 := Lib.hid (fun w' he => Hnd.out T w' he)
        have hgT := Hg.out T
        obtain ⟨N, hN⟩ : ∃ N, noteI ks T = N := ⟨_, rfl⟩
        rw [hN] at Hnd2
        have HN := Lib.hid hN
        clear hN
        go_wp2_with fail
        refine (Hpa.out _).mono ?_
        rintro e w2 ⟨rfl, hx2⟩
        have hx2w := ((Ext.refl wr).alloc _).trans hx2
        have hcb := unitBlock (hI.grow hx2w).box
        simp only at hcb
        obtain ⟨b0, b1, b2, b3, b4, b5, b6, b7⟩ := hcb
        by_cases hm : T ∈ anchL (wd.take k)
        · rw [decide_eq_true hm] at hgT
          have hsee : (if T ∈ anchL (wd.take k) then ([⟨k, ra, ri, rn, 5, T⟩] : List GFind) else if noteI ks T < 0 then [⟨k, ra, ri, rn, 4, T⟩] else []) = [⟨k, ra, ri, rn, 5, T⟩] := if_pos hm
          have Hsee := Lib.hid hsee
          clear hsee
          go_wp2_with fail
          refine (Hnd2.out _ (hI.grow hx2w).ext).mono ?_
          rintro e w3 ⟨q, rfl, hx3⟩
          have hI3 := hI.grow ((hx2w.trans hx3).alloc (.cells #[.int .i64 q.a, .int .i64 q.i, .int .i64 q.n, .int .i64 q.kind, .string q.label, .slice q.hA q.hn q.hc, .slice q.wA q.wn q.wc, .slice q.kA q.kn q.kc] 27))
          have hcb := unitBlock hI3.box
          simp only at hcb
          obtain ⟨b0, b1, b2, b3, b4, b5, b6, b7⟩ := hcb
          go_wp2_with (first | (at_lookup; refine wpList_lookSet rfl _ _ rfl hI3.set rfl T rfl hTm _ hgT ?_) |
            (at_builtin; refine wpList_app findEl rfl _ _ rfl 1 rfl (hI3.own.ext (Ext.alloc (Ext.refl _) _)) (ys := [⟨(k : Nat), ra, ri, rn, 5, T⟩]) rfl (Sl.new' findEl (by simp) rfl) (by simp; omega) (by have := hI3.set.lt; simp at this ⊢; omega) ?_; intro v4 w4 hown4 hb4 hg4; have hI4 := hI3.app ((Ext.refl _).alloc _) hb4 hown4; clear hown4 hb4 hg4) |
            (at_mapUpdate; refine wpList_putSet rfl _ _ _ rfl hI4.set (by unfold maxLen; omega) rfl T true rfl rfl hTm ?_; intro w5 hset5 hg5; have hI5 := Lib.hid (hI4.upd hset5 hg5); clear hset5 hg5))
          go_roundw
          case rel => exact ⟨k + 1, _, _, by omega, by go_num, Lib.hid (by rw [Hfw.out, if_pos trivial, Hsee.out, Hta2.out]; simp), by simp; omega, Hg5, hI5.out⟩
          case measure => simp [intOf]; omega
        · rw [decide_eq_false hm] at hgT
          by_cases hneg : N < 0
          · have e1 : decide (0 ≤ N) = false := decide_eq_false (by omega)
            have hsee : (if T ∈ anchL (wd.take k) then ([⟨k, ra, ri, rn, 5, T⟩] : List GFind) else if noteI ks T < 0 then [⟨k, ra, ri, rn, 4, T⟩] else []) = [⟨k, ra, ri, rn, 4, T⟩] := by rw [if_neg hm, HN.out, if_pos hneg]
            have Hsee := Lib.hid hsee
            clear hsee
            go_wp2_with fail
            refine (Hnd2.out _ (hI.grow hx2w).ext).mono ?_
            rintro e w3 ⟨q, rfl, hx3⟩
            have hI3 := hI.grow ((hx2w.trans hx3).alloc (.cells #[.int .i64 q.a, .int .i64 q.i, .int .i64 q.n, .int .i64 q.kind, .string q.label, .slice q.hA q.hn q.hc, .slice q.wA q.wn q.wc, .slice q.kA q.kn q.kc] 27))
            have hcb := unitBlock hI3.box
            simp only at hcb
            obtain ⟨b0, b1, b2, b3, b4, b5, b6, b7⟩ := hcb
            go_wp2_with (first | (at_lookup; refine wpList_lookSet rfl _ _ rfl hI3.set rfl T rfl hTm _ hgT ?_) |
              (at_builtin; refine wpList_app findEl rfl _ _ rfl 1 rfl (hI3.own.ext (Ext.alloc (Ext.refl _) _)) (ys := [⟨(k : Nat), ra, ri, rn, 4, T⟩]) rfl (Sl.new' findEl (by simp) rfl) (by simp; omega) (by have := hI3.set.lt; simp at this ⊢; omega) ?_; intro v4 w4 hown4 hb4 hg4; have hI4 := hI3.app ((Ext.refl _).alloc _) hb4 hown4; clear hown4 hb4 hg4) |
              (at_mapUpdate; refine wpList_putSet rfl _ _ _ rfl hI4.set (by unfold maxLen; omega) rfl T true rfl rfl hTm ?_; intro w5 hset5 hg5; have hI5 := Lib.hid (hI4.upd hset5 hg5); clear hset5 hg5))
            go_roundw
            case rel => exact ⟨k + 1, _, _, by omega, by go_num, Lib.hid (by rw [Hfw.out, if_pos trivial, Hsee.out, Hta2.out]; simp), by simp; omega, Hg5, hI5.out⟩
            case measure => simp [intOf]; omega
          · have e1 : decide (0 ≤ N) = true := decide_eq_true (by omega)
            have hsee : (if T ∈ anchL (wd.take k) then ([⟨k, ra, ri, rn, 5, T⟩] : List GFind) else if noteI ks T < 0 then [⟨k, ra, ri, rn, 4, T⟩] else []) = [] := by rw [if_neg hm, HN.out, if_neg hneg]
            have Hsee := Lib.hid hsee
            clear hsee
            go_wp2_with fail
            refine (Hnd2.out _ (hI.grow hx2w).ext).mono ?_
            rintro e w3 ⟨q, rfl, hx3⟩
            have hI3 := hI.grow ((hx2w.trans hx3).alloc (.cells #[.int .i64 q.a, .int .i64 q.i, .int .i64 q.n, .int .i64 q.kind, .string q.label, .slice q.hA q.hn q.hc, .slice q.wA q.wn q.wc, .slice q.kA q.kn q.kc] 27))
            go_wp2_with (first | (at_lookup; refine wpList_lookSet rfl _ _ rfl hI3.set rfl T rfl hTm _ hgT ?_) |
              (at_mapUpdate; refine wpList_putSet rfl _ _ _ rfl hI3.set (by unfold maxLen; omega) rfl T true rfl rfl hTm ?_; intro w5 hset5 hg5; have hI5 := Lib.hid (hI3.upd hset5 hg5); clear hset5 hg5))
            go_roundw
            case rel => exact ⟨k + 1, acc, _, by omega, by go_num, Lib.hid (by rw [Hfw.out, if_pos trivial, Hsee.out, Hta2.out]; simp), by omega, Hg5, hI5.out⟩
            case measure => simp [intOf]; omega
    · obtain rfl : k = wd.length := by omega
      have hf := Hf.out
      rw [List.take_length, List.drop_of_length_le (Nat.le_refl _), findW, List.append_nil] at hf
      have Hf2 : Hid (R = acc ++ findK ks (anchL wd) 0 (kids.drop 0)) := Lib.hid hf
      have hg := Hg.out
      rw [List.take_length] at hg
      have Hg2 := Lib.hid hg
      have d1 : decide ((wd.length : Int) < (wd.length : Int)) = false := decide_eq_false (by omega)
      have hcb := unitBlock hI.box
      simp only at hcb
      obtain ⟨b0, b1, b2, b3, b4, b5, b6, b7⟩ := hcb
      clear hf hg Hf Hg
      go_wp2
      go_loopw [3, 64] (fun vo vk wr => ∃ (k : Nat) (acc : List GFind), k ≤ rs.length ∧ vk = .int .i64 (k : Nat) ∧ Hid (R = acc ++ findK ks (anchL wd) k (kids.drop k)) ∧ acc.length ≤ wd.length + k ∧ OInv w ⟨ra, ri, rn, rk, rl, hdA, hn, hc, wA, wd.length, wc, kA, rs.length, kc⟩ wd.length g acc vo wr) (fun _ vk _ => rs.length - (intOf vk).toNat)
      case atStart => exact ⟨0, acc, Nat.zero_le _, rfl, Hf2, by omega, hI⟩
      case round =>
        clear hI hext b0 b1 b2 b3 b4 b5 b6 b7
        obtain ⟨k, acc, hk, rfl, Hf, hacc, hI⟩ := hrel
        by_cases hlt : k < rs.length
        · have hltk : k < kids.length := by rw [Hl.out]; exact hlt
          have hfk := findK_drop (ks := ks) (seen := anchL wd) hltk
          have hrd := ReadsAll.get Hall.out k hltk hlt
          have hkey := hrd.key
          have hid := Reads.id hrd
          have hls := Hlab.out kids[k] (List.getElem_mem hltk)
          obtain ⟨b, off, rfl, hb, u0, u1, u2, u3, u4, u5, u6, u7⟩ := unitAt (hrs.ext hI.ext) hlt
          obtain ⟨q, hq⟩ : ∃ q, rs[k] = q := ⟨_, rfl⟩
          rw [hq] at u0 u1 u2 u3 u4 u5 u6 u7 hkey hid
          simp only [keyR, keyU, Prod.mk.injEq] at hkey
          rw [← hkey.1, ← hkey.2, hid] at hfk
          rw [← hkey.2] at hls
          simp only at hfk
          have hix := indexOwn_any (some ⟨b, off, none⟩) kc rs q.label wr.heap.size (wr.alloc (.cells q.cells.toArray 27)) ((hrs.ext hI.ext).ext ((Ext.refl _).alloc _)) (by simp) (boxUnit q (w := wr) (Ext.refl _)).2.2.2.2.2.1 (by omega)
          have hbq := fun w' he => boxUnit (w' := w') q (w := wr) he
          rw [Hks.out] at hix
          obtain ⟨J, hJ⟩ : ∃ J, noteI ks q.label = J := ⟨_, rfl⟩
          rw [hJ] at hix hfk
          have Hf3 := Lib.hid (Hf.out.trans (by rw [hfk]))
          obtain ⟨qa, qi, qn, qk, s, qh, qhn, qhc, qw, qwn, qwc, qkA, qkn, qkc⟩ := q
          simp only [RUnit.cells] at hix hbq u0 u1 u2 u3 u4 u5 u6 u7 hls
          simp only at Hf3
          have hsm : s.size ≤ maxLen := by unfold maxLen; omega
          have hgs := Hg2.out s
          have Hix := Lib.hid hix
          have Hbq := Lib.hid hbq
          have d1 : decide ((k : Int) < (rs.length : Int)) = true := decide_eq_true (by omega)
          have hcb := unitBlock (hI.grow ((Ext.refl _).alloc (.cells #[.int .i64 qa, .int .i64 qi, .int .i64 qn, .int .i64 qk, .string s, .slice qh qhn qhc, .slice qw qwn qwc, .slice qkA qkn qkc] 27))).box
          simp only at hcb
          obtain ⟨b0, b1, b2, b3, b4, b5, b6, b7⟩ := hcb
          clear hfk hrd hkey hid hq hix hbq hJ Hf
          go_wp2_with fail
          refine (Hix.out).mono ?_
          rintro e w2 ⟨rfl, hx2⟩
          have hI2 := hI.grow (((Ext.refl _).alloc _).trans hx2)
          obtain ⟨-, v0, v1, v2, v3, v4, v5, v6, v7⟩ := Hbq.out _ hx2
          have hrun := hI2.set.look hsm
          clear b0 b1 b2 b3 b4 b5 b6 b7 u0 u1 u2 u3 u4 u5 u6 u7
          by_cases h7 : qk = 7
          · subst h7
            by_cases hm : s ∈ anchL wd
            · rw [decide_eq_true hm] at hgs
              rw [hgs] at hrun
              by_cases hJk : J = k
              · have HF := Lib.hid (show R = acc ++ findK ks (anchL wd) (k + 1) (kids.drop (k + 1)) by rw [Hf3.out, if_neg (by rintro ⟨-, h | h⟩ <;> contradiction)]; simp)
                have e2 : (J != (k : Int)) = false := by simp [hJk]
                clear hJk hgs
                go_wp2
                go_roundw
                case rel => exact ⟨k + 1, acc, by omega, by go_num, HF, by omega, hI2⟩
                case measure => simp [intOf]; omega
              · have HF := Lib.hid (show R = (acc ++ [⟨k, qa, qi, qn, 7, s⟩]) ++ findK ks (anchL wd) (k + 1) (kids.drop (k + 1)) by rw [Hf3.out, if_pos ⟨rfl, .inr hJk⟩]; simp)
                have e2 : (J != (k : Int)) = true := by simp [hJk]
                clear hJk hgs
                go_wp2_with (at_builtin; refine wpList_app findEl rfl _ _ rfl 1 rfl (hI2.own.ext (Ext.alloc (Ext.refl _) _)) (ys := [⟨(k : Nat), qa, qi, qn, 7, s⟩]) rfl (Sl.new findEl rfl) (by simp; omega) (by have := hI2.set.lt; simp at this ⊢; omega) ?_; intro v4 w4 hown4 hb4 hg4; have hI4 := Lib.hid (hI2.app ((Ext.refl _).alloc _) hb4 hown4); clear hown4 hb4 hg4)
                go_roundw
                case rel => exact ⟨k + 1, _, by omega, by go_num, HF, by simp; omega, hI4.out⟩
                case measure => simp [intOf]; omega
            · rw [decide_eq_false hm] at hgs
              rw [hgs] at hrun
              have HF := Lib.hid (show R = (acc ++ [⟨k, qa, qi, qn, 7, s⟩]) ++ findK ks (anchL wd) (k + 1) (kids.drop (k + 1)) by rw [Hf3.out, if_pos ⟨rfl, .inl hm⟩]; simp)
              clear hgs
              go_wp2_with (at_builtin; refine wpList_app findEl rfl _ _ rfl 1 rfl (hI2.own.ext (Ext.alloc (Ext.refl _) _)) (ys := [⟨(k : Nat), qa, qi, qn, 7, s⟩]) rfl (Sl.new findEl rfl) (by simp; omega) (by have := hI2.set.lt; simp at this ⊢; omega) ?_; intro v4 w4 hown4 hb4 hg4; have hI4 := Lib.hid (hI2.app ((Ext.refl _).alloc _) hb4 hown4); clear hown4 hb4 hg4)
              go_roundw
              case rel => exact ⟨k + 1, _, by omega, by go_num, HF, by simp; omega, hI4.out⟩
              case measure => simp [intOf]; omega
          · have HF := Lib.hid (show R = acc ++ findK ks (anchL wd) (k + 1) (kids.drop (k + 1)) by rw [Hf3.out, if_neg (by rintro ⟨h, -⟩; exact h7 h)]; simp)
            have e1 : (qk == 7) = false := by simp [h7]
            clear h7 hgs
            go_wp2
            go_roundw
            case rel => exact ⟨k + 1, acc, by omega, by go_num, HF, by omega, hI2⟩
            case measure => simp [intOf]; omega
        · have hkr : k = rs.length := by omega
          have hf := Hf.out
          rw [List.drop_of_length_le (by rw [Hl.out]; omega), findK, List.append_nil] at hf
          have Hf2 := Lib.hid hf
          have d1 : decide ((k : Int) < (rs.length : Int)) = false := decide_eq_false (by omega)
          clear hf hkr
          go_wp2
          go_ret
          exact ⟨_, rfl, by rw [Hf2.out]; exact hI.own.mono (by omega), hI.ext⟩

end Go.Proofs.YtiacmahfjcolaaaDoor
