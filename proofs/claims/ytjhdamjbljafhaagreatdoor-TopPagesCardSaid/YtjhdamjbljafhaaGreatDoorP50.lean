/- concordance.Index: the walk. concordance.Find: the pages of a word. -/
import Derived.Test.YtjhdamjbljafhaaGreatDoorP49
namespace Go.Proofs.YtjhdamjbljafhaaGreatDoor
open Go.RowKit Go.Maps Go.WideMaps Go.ChangeShapes Go.ChangeMaps
theorem wpList_mapRun {P : Program} {ops : Array Oper} {rest : List Oper} {o : Oper} {a : Act} {Q : Exit → Act → World → Prop} {w w2 : World} (hg : o.guard = none) (t : TypeId) (m x v : Operand) (hop : o.op = .mapUpdate t m x v) {B : Nat} {key u : Value} (hm : a.eval m = .map (some B)) (hx : a.eval x = key) (hv : a.eval v = u)
    (hrun : (Instr.mapUpdate t (.map (some B)) key u).run P w = .ok () w2) (hK : wpList P ops Q rest (a.put o.dst undef) w2) : wpList P ops Q (o :: rest) a w := by
  refine wpList_plain hg fun K' hK' => ?_
  unfold Oper.wp
  simp [execOp, hop, hm, hx, hv, hrun, Result.andThen]
  exact hK' _ _ hK
theorem wf64_of {z : Int} (h1 : -9223372036854775808 ≤ z) (h2 : z ≤ 9223372036854775807) : (Lit.int .i64 z).wf = true := by
  have e1 : IntKind.min .i64 = -9223372036854775808 := by rfl
  have e2 : IntKind.max .i64 = 9223372036854775807 := by rfl
  simp only [Lit.wf, e1, e2, Bool.and_eq_true, decide_eq_true_eq]
  exact ⟨h1, h2⟩
theorem extract_size (s : ByteArray) (a b : Nat) : (s.extract a b).size ≤ s.size := by
  rw [ByteArray.size_extract]
  omega
theorem fields_size {s x : ByteArray} (h : x ∈ fieldsF s) : x.size ≤ s.size := by
  unfold fieldsF Lib.goFieldsP at h
  rw [List.mem_map] at h
  obtain ⟨y, -, rfl⟩ := h
  exact extract_size _ _ _
theorem pgWords_size {p : GPage} {x : ByteArray} (hp : ∀ s ∈ pgT p, s.size ≤ 1000) (h : x ∈ pgWords p) : x.size ≤ 1000 := by
  unfold pgWords at h
  rw [List.mem_flatMap] at h
  obtain ⟨s, hs, h⟩ := h
  exact Nat.le_trans (fields_size h) (hp s hs)
theorem bareF_size (s : ByteArray) : (bareF s).size ≤ s.size := by
  unfold bareF bareL Lib.trimRightS Lib.trimLeftB
  simp only [ByteArray.size, List.size_toArray, List.length_reverse]
  have h1 := dropWhile_len (fun x : UInt8 => [44, 59, 46, 58, 41].contains x) (s.data.toList.dropWhile (· == 40)).reverse
  have h2 := dropWhile_len (· == (40 : UInt8)) s.data.toList
  rw [List.length_reverse] at h1
  have e : s.data.toList.length = s.data.size := Array.length_toList
  omega
theorem Own.mapKeep {P : Program} {α : Type} {D : El P α} {w w' : World} {v : Value} {base B : Nat} {xs : List α} (h : Own D base w v xs) (hg : w.grownBy w' (some B)) (hm : ∃ es clock, w.heap[B]? = some (.map es clock)) : Own D base w' v xs :=
  h.keep fun k hk => hg.block k (block_lt (h.bd hk).2.choose_spec) (fun e => by
    cases e
    obtain ⟨es, clock, hm⟩ := hm
    obtain ⟨-, cur, hc⟩ := h.bd hk
    rw [hm] at hc
    cases hc)
theorem pushW_key {n : Int} {g : ByteArray → List Int} {l : List ByteArray} {s : ByteArray} (h : l.foldl (pushW n) g s ≠ []) : g s ≠ [] ∨ ∃ x ∈ l, s = bareF x := by
  induction l generalizing g with
  | nil => exact .inl h
  | cons x l ih =>
    rcases ih h with h | ⟨y, hy, e⟩
    · unfold pushW at h
      split at h
      · rename_i hc
        exact .inr ⟨x, List.mem_cons_self, hc.2⟩
      · exact .inl h
    · exact .inr ⟨y, List.mem_cons_of_mem _ hy, e⟩
theorem idxG_key {ps : List GPage} {g : ByteArray → List Int} {s : ByteArray} (h : ps.foldl pushP g s ≠ []) : g s ≠ [] ∨ ∃ p ∈ ps, ∃ x ∈ pgWords p, s = bareF x := by
  induction ps generalizing g with
  | nil => exact .inl h
  | cons p ps ih =>
    rcases ih h with h | ⟨q, hq, e⟩
    · rcases pushW_key h with h | ⟨x, hx, e⟩
      · exact .inl h
      · exact .inr ⟨p, List.mem_cons_self, x, hx, e⟩
    · exact .inr ⟨q, List.mem_cons_of_mem _ hq, e⟩
set_option maxRecDepth 100000 in
set_option maxHeartbeats 6400000 in
theorem index_any (A : Option Addr) (c : Nat) (L : List (GPage × RPage)) (w : World) (hs : Sl pageEl w A (L.map Prod.snd)) (hp : ∀ x ∈ L, PageO w x.1 x.2) (hi : PgIn (L.map Prod.fst)) (hnum : ∀ p ∈ L.map Prod.fst, p.n ≤ 1000000) :
    Calls Tryz.prog 8 #[.slice A L.length c] w (RetIdx w (idxG (L.map Prod.fst))) := by
  have hcnt := hi.cnt
  rw [List.length_map] at hcnt
  have Hs := Lib.hid hs
  have Hp := Lib.hid hp
  have Hi := Lib.hid hi
  have Hnum := Lib.hid hnum
  have Hfin := Lib.hid (show idxG ((L.map Prod.fst).take L.length) = idxG (L.map Prod.fst) by rw [List.take_of_length_le (by rw [List.length_map]; exact Nat.le_refl _)])
  have Hsum := Lib.hid (fun k => (show psum ((L.map Prod.fst).take k) ≤ 1000000 from by
    have h1 : psum (L.map Prod.fst) = psum ((L.map Prod.fst).take k) + psum ((L.map Prod.fst).drop k) := by rw [← psum_append, List.take_append_drop]
    have h2 := hi.sum
    omega))
  have Hkey := Lib.hid (fun s (h : idxG (L.map Prod.fst) s ≠ []) => (show s.size ≤ 1000 from by
    rcases idxG_key h with h | ⟨p, hp, x, hx, rfl⟩
    · exact absurd rfl h
    · exact Nat.le_trans (bareF_size x) (pgWords_size (hi.sz p hp) hx)))
  obtain ⟨G, hG⟩ : ∃ G, idxG (L.map Prod.fst) = G := ⟨_, rfl⟩
  rw [hG] at Hfin Hkey ⊢
  have hx1 : Ext w (w.alloc (.map #[] 0)) := (Ext.refl w).alloc _
  have HM := Lib.hid (GrpS.made w)
  have Hx1 := Lib.hid hx1
  clear hs hp hi hG hx1 hnum
  have hmm := @run_makeMap Tryz.prog
  go_enter Tryz.func8, Tryz.ntmps8
  go_wp2
  go_loopw [15] (fun vk wr => ∃ (k n : Nat) (g : ByteArray → List Int), k ≤ L.length ∧ vk = .int .i64 (k : Nat) ∧ Hid (g = idxG ((L.map Prod.fst).take k)) ∧ Hid (n ≤ psum ((L.map Prod.fst).take k)) ∧ Hid (GrpS wr w.heap.size (w.heap.size + 1) n g) ∧ Ext w wr) (fun vk _ => L.length - (intOf vk).toNat)
  case atStart => exact ⟨0, 0, _, Nat.zero_le _, rfl, Lib.hid rfl, Lib.hid (Nat.zero_le _), HM, Hx1.out⟩
  case round =>
    clear HM Hx1
    obtain ⟨k, n, g, hk, rfl, Hg, Hn, HGr, hext⟩ := hrel
    by_cases hlt : k < L.length
    · obtain ⟨x, hx⟩ : ∃ x, L[k] = x := ⟨_, rfl⟩
      have hmem : x ∈ L := hx ▸ List.getElem_mem hlt
      obtain ⟨b, off, hAe, hbl, u0, u1, u2, u3⟩ := pageAt (Hs.out.ext hext) (k := k) (by simpa using hlt)
      rw [List.getElem_map, hx] at u0 u1 u2 u3
      have hpo := (Hp.out x hmem).ext hext
      have hpm : x.1 ∈ L.map Prod.fst := List.mem_map_of_mem hmem
      have hst := idxG_take (ps := L.map Prod.fst) (k := k) (by simpa using hlt)
      have hps : psum ((L.map Prod.fst).take (k + 1)) = psum ((L.map Prod.fst).take k) + pW x.1 := by
        rw [List.take_succ_eq_append_getElem (by simpa using hlt), psum_append, List.getElem_map, hx]
        simp [psum]
      rw [List.getElem_map, hx] at hst
      have hbd := Hsum.out (k + 1)
      rw [hps] at hbd
      have hsz := Hi.out.sz x.1 hpm
      have htx := Hi.out.tx x.1 hpm
      have hnm := Hnum.out x.1 hpm
      have hn0 := hpo.n
      obtain ⟨p, q⟩ := x
      dsimp only at u0 u1 u2 u3 hpo hst hps hbd hsz htx hnm hn0
      have hxa : Ext wr (wr.alloc (.cells #[.int .i64 q.n, .string q.h, .slice q.lA q.ln q.lc, .slice q.nA q.nn q.nc] 37)) := (Ext.refl wr).alloc _
      have hbx := heap_alloc_new wr (.cells #[.int .i64 q.n, .string q.h, .slice q.lA q.ln q.lc, .slice q.nA q.nn q.nc] 37)
      have hxb : Ext (wr.alloc (.cells #[.int .i64 q.n, .string q.h, .slice q.lA q.ln q.lc, .slice q.nA q.nn q.nc] 37)) ((wr.alloc (.cells #[.int .i64 q.n, .string q.h, .slice q.lA q.ln q.lc, .slice q.nA q.nn q.nc] 37)).alloc (.cells #[.int .i64 q.n, .string q.h, .slice q.lA q.ln q.lc, .slice q.nA q.nn q.nc] 37)) := (Ext.refl _).alloc _
      have hwds := pwords_any (some ⟨wr.heap.size + 1, 0, none⟩) 1 [(p, q)] ((wr.alloc (.cells #[.int .i64 q.n, .string q.h, .slice q.lA q.ln q.lc, .slice q.nA q.nn q.nc] 37)).alloc (.cells #[.int .i64 q.n, .string q.h, .slice q.lA q.ln q.lc, .slice q.nA q.nn q.nc] 37)) (Sl.new' pageEl (by simp) (by simp [El.flat, pageEl, RPage.cells])) (fun y hy => by rw [List.mem_singleton.1 hy]; exact hpo.ext (hxa.trans hxb)) ⟨fun y hy => by simp at hy; subst hy; exact hsz, by simp, by simp [psum]; omega, fun y hy => by simp at hy; subst hy; exact htx⟩
      rw [show wdsF (([(p, q)] : List (GPage × RPage)).map Prod.fst) = pgWords p by simp [wdsF]] at hwds
      have Hwds := Lib.hid (show Calls Tryz.prog 7 #[.slice (some ⟨wr.heap.size + 1, 0, none⟩) 1 1] _ (RetOwn strEl _ (pgWords p)) from hwds)
      have hwl := pgWords_len p
      have hwz := fun y (hy : y ∈ pgWords p) => pgWords_size hsz hy
      unfold pushP at hst
      obtain ⟨ws, hws⟩ : ∃ ws, pgWords p = ws := ⟨_, rfl⟩
      rw [hws] at Hwds hwl hwz hst
      have Hst := Lib.hid hst
      have Hps := Lib.hid hps
      have Hwz := Lib.hid hwz
      have Hwl := Lib.hid hwl
      have Hbd := Lib.hid hbd
      have e1 : decide ((k : Int) < (L.length : Int)) = true := decide_eq_true (by omega)
      subst hAe
      obtain ⟨pn, hpn⟩ : ∃ pn : Int, q.n = pn := ⟨_, rfl⟩
      rw [hpn] at u0 hbx hxa hxb Hwds hn0
      have Hbx := Lib.hid ((hxb.block (block_lt hbx)).trans hbx)
      have Hx := Lib.hid (hext.trans (hxa.trans hxb))
      have HGx := Lib.hid (HGr.out.ext (hxa.trans hxb))
      have hwf : (Lit.int .i64 pn).wf = true := by
        rw [hn0]
        exact wf64_of (by omega) (by omega)
      have Hwf := Lib.hid hwf
      have Hn0 := Lib.hid hn0
      have hzx := hext.size
      clear hx hmem hpo hpm hst hps hbd hsz htx hnm hwds hwl hwz hws hxa hxb hbx hext hwf hn0 hpn
      go_wp2_with fail
      refine (Hwds.out).mono ?_
      rintro e w3 ⟨v3, rfl, hown3, hx3⟩
      obtain ⟨A3, c3, rfl, -, -⟩ := hown3.form
      have Ho3 := Lib.hid (hown3.mono (Nat.zero_le _))
      have Hx3 := Lib.hid (Hx.out.trans hx3)
      have HG3 := Lib.hid (HGx.out.ext hx3)
      have Hb3 := Lib.hid ((hx3.block (block_lt Hbx.out)).trans Hbx.out)
      have hwl2 : ws.length ≤ 1000000 := by have := Hwl.out; have := Hbd.out; omega
      clear hown3 hx3 u0 u1 u2 u3
      go_wp2_with fail
      obtain ⟨bx, hbx0⟩ : ∃ b, wr.heap.size = b := ⟨_, rfl⟩
      rw [hbx0] at Hb3 ⊢
      clear hbx0
      go_loopw [23] (fun vj wi => ∃ (j n2 : Nat) (g2 : ByteArray → List Int), j ≤ ws.length ∧ vj = .int .i64 (j : Nat) ∧ Hid (g2 = (ws.take j).foldl (pushW (p.n : Int)) (idxG ((L.map Prod.fst).take k))) ∧ Hid (n2 ≤ n + j) ∧ Hid (GrpS wi w.heap.size (w.heap.size + 1) n2 g2) ∧ Hid (Own strEl 0 wi (.slice A3 ws.length c3) ws) ∧ Hid (wi.heap[bx]? = some (.cells #[.int .i64 pn, .string q.h, .slice q.lA q.ln q.lc, .slice q.nA q.nn q.nc] 37 (0, 0))) ∧ Ext w wi) (fun vj _ => ws.length - (intOf vj).toNat)
      case atStart => exact ⟨0, n, g, Nat.zero_le _, rfl, Lib.hid Hg.out, Lib.hid (Nat.le_refl _), HG3, Ho3, Hb3, Hx3.out⟩
      case round =>
        clear HG3 Ho3 Hb3 Hx3
        obtain ⟨j, n2, g2, hj, rfl, Hg2, Hn2, HG2, Ho2, Hb2, hext2⟩ := hrel
        by_cases hjt : j < ws.length
        · have hst : Sl strEl wr A3 ws := by
            obtain ⟨A', c', hv, -, hsl⟩ := Ho2.out.form
            rw [Value.slice.injEq] at hv
            obtain ⟨rfl, -, -⟩ := hv
            exact hsl
          obtain ⟨b3, off3, hAe, hbl3, v0⟩ := strAt hst hjt
          have hszj := Hwz.out ws[j] (List.getElem_mem hjt)
          have hft := push_take (n := (p.n : Int)) (g := idxG ((L.map Prod.fst).take k)) hjt
          obtain ⟨s, hs⟩ : ∃ s, ws[j] = s := ⟨_, rfl⟩
          rw [hs] at v0 hszj hft
          have Hft := Lib.hid hft
          have Hba := Lib.hid (bare_any s wr (by omega))
          have hbz := bareF_size s
          have e2 : decide ((j : Int) < (ws.length : Int)) = true := decide_eq_true (by omega)
          have Hext2 := Lib.hid hext2
          subst hAe
          have hn2b : n2 ≤ 1000000 := by have := Hn2.out; have := Hn.out; have := Hbd.out; have := Hwl.out; omega
          clear hst hft hs hext2
          go_wp2_with fail
          refine (Hba.out).mono ?_
          rintro e w5 ⟨rfl, hx5⟩
          obtain ⟨z, hz⟩ : ∃ z, bareF s = z := ⟨_, rfl⟩
          rw [hz] at hbz ⊢
          have Hz := Lib.hid hz
          have HG5 := Lib.hid (HG2.out.ext hx5)
          have Ho5 := Lib.hid (Ho2.out.ext hx5)
          have hb5 := (hx5.block (block_lt Hb2.out)).trans Hb2.out
          have Hb5 := Lib.hid hb5
          have Hx5 := Lib.hid (Hext2.out.trans hx5)
          have hz5 := (Hext2.out.trans hx5).size
          clear hz hx5
          by_cases hzz : z = ⟨#[]⟩
          · subst hzz
            have Hg3 := Lib.hid (show g2 = (ws.take (j + 1)).foldl (pushW (p.n : Int)) (idxG ((L.map Prod.fst).take k)) by
              rw [Hft.out, ← Hg2.out]
              funext t
              unfold pushW
              rw [if_neg (fun h => h.1 Hz.out)])
            clear hb5
            go_wp2
            go_roundw
            case rel => exact ⟨j + 1, n2, g2, by omega, by go_num, Hg3, Lib.hid (by have := Hn2.out; omega), HG5, Ho5, Hb5, Hx5.out⟩
            case measure => simp [intOf]; omega
          · obtain ⟨hne, hne2⟩ := str_ne hzz
            have Hg3 := Lib.hid (show (fun t => if t = z then g2 z ++ [pn] else g2 t) = (ws.take (j + 1)).foldl (pushW (p.n : Int)) (idxG ((L.map Prod.fst).take k)) by
              rw [Hft.out, ← Hg2.out]
              funext t
              unfold pushW
              rw [Hz.out, Hn0.out]
              by_cases ht : t = z
              · subst ht; rw [if_pos rfl, if_pos ⟨hzz, rfl⟩]
              · rw [if_neg ht, if_neg (fun h => ht h.2)])
            clear hzz
            have hp0 : w5.cell? ⟨bx, 0, none⟩ = some (.int .i64 pn) := by simp [World.cell?, hb5]
            have hxa : Ext w5 (w5.alloc (.cells #[.int .i64 pn] 3)) := (Ext.refl w5).alloc _
            have Hxa := Lib.hid hxa
            have hmapB := HG5.out.lt
            clear hxa hb5
            go_wp2_with (first | (refine wpList_lookGrp rfl (.tmp 33) (.tmp 34) rfl HG5.out hn2b rfl z rfl (by omega) ?_; intro v1 hv1 hvl hvw hback; have Hv1 := Lib.hid (hv1.ext Hxa.out); have Hv0 := Lib.hid hv1; have Hback := Lib.hid hback; obtain ⟨gz, hgz⟩ : ∃ l, g2 z = l := ⟨_, rfl⟩; rw [hgz] at Hv1 Hv0 hvl Hback; have Hgz := Lib.hid hgz; clear hv1 hvw hback hgz) |
              (refine wpList_appAt intEl rfl (.tmp 35) (.tmp 38) rfl 1 rfl Hv1.out (ys := [pn]) (A := some ⟨w5.heap.size, 0, none⟩) rfl (Sl.new intEl (by simp [El.flat, intEl])) (by simp; omega) (by simp; omega) ?_; intro v2 w6 h1 h2 h3; replace h2 : (w5.alloc (.cells #[.int .i64 pn] 3)).grownBy w6 v1.ownBlock := h2; replace h3 : v2.ownBlock = v1.ownBlock ∨ v2.ownBlock = some (w5.alloc (.cells #[.int .i64 pn] 3)).heap.size := h3; obtain ⟨w7, hrun, hG7, hg7⟩ := Hback.out w6 v2 pn ((World.grownBy_alloc w5 _ _).trans h2) h1 Hwf.out (h3.imp id (fun e => ⟨_, e, by simp⟩)); have Hs6 := Lib.hid (And.intro h1 h2); have HG7 := Lib.hid hG7; have Hg7 := Lib.hid hg7; clear h1 h2 h3 hG7 hg7) |
              (refine wpList_mapRun rfl 59 (.tmp 31) (.tmp 32) (.tmp 39) rfl rfl rfl rfl hrun ?_))
            go_roundw
            case rel =>
              obtain ⟨ho6, hg6⟩ := Hs6.out
              obtain ⟨hB1, hB2, es, clock, hmap⟩ := hmapB
              have hvB : ∀ jj, v1.ownBlock = some jj → w.heap.size + 1 ≤ jj := fun jj e => (Hv1.out.bd e).1
              have hmap6 : w6.heap[w.heap.size]? = some (.map es clock) := (hg6.block _ (by simp; omega) (fun e => by have := hvB _ e.symm; omega)).trans ((Hxa.out.block hB1).trans hmap)
              have hw6 : Own strEl 0 w6 (.slice (some ⟨b3, off3, none⟩) ws.length c3) ws := (Ho5.out.ext Hxa.out).other Hv1.out (by decide) hg6
              have hb6 : w6.heap[bx]? = some (.cells #[.int .i64 pn, .string q.h, .slice q.lA q.ln q.lc, .slice q.nA q.nn q.nc] 37 (0, 0)) := (hg6.block _ (by have := block_lt Hb5.out; simp; omega) (fun e => Hv1.out.ne ((Hxa.out.block (block_lt Hb5.out)).trans Hb5.out) (by decide) _ e.symm rfl)).trans ((Hxa.out.block (block_lt Hb5.out)).trans Hb5.out)
              have hx6 : Ext w w6 := (Hx5.out.trans Hxa.out).grown hg6 (by simp; omega) (fun jj e => by have := hvB jj e; omega)
              refine ⟨j + 1, n2 + 1, _, by omega, by go_num, Hg3, Lib.hid (by have := Hn2.out; omega), Lib.hid ?_, Lib.hid (hw6.mapKeep Hg7.out ⟨es, clock, hmap6⟩), Lib.hid ((Hg7.out.block _ (block_lt hb6) (fun e => by cases e; rw [hb6] at hmap6; cases hmap6)).trans hb6), hx6.grown Hg7.out hx6.size (fun jj e => by cases e; omega)⟩
              rw [Hgz.out]
              exact HG7.out
            case measure => simp [intOf]; omega
        · have e2 : decide ((j : Int) < (ws.length : Int)) = false := decide_eq_false (by omega)
          have hjn : j = ws.length := by omega
          have Hg3 := Lib.hid (show g2 = idxG ((L.map Prod.fst).take (k + 1)) by rw [Hg2.out, hjn, List.take_length, Hst.out])
          have Hn3 := Lib.hid (show n2 ≤ psum ((L.map Prod.fst).take (k + 1)) by have h1 := Hn2.out; have h2 := Hn.out; have h3 := Hps.out; have h4 := Hwl.out; omega)
          clear hjn
          have Hext2 := Lib.hid hext2
          clear hext2
          go_wp2
          go_roundw
          case rel => exact ⟨k + 1, n2, g2, by omega, by go_num, Hg3, Hn3, HG2, Hext2.out⟩
          case measure => simp [intOf]; omega
    · have e1 : decide ((k : Int) < (L.length : Int)) = false := decide_eq_false (by omega)
      have hkn : k = L.length := by omega
      have HgG := Lib.hid (show g = G by rw [Hg.out, hkn]; exact Hfin.out)
      have hnb : n ≤ 1000000 := by have h1 := Hn.out; have h2 := Hsum.out k; omega
      clear hkn
      rw [HgG.out] at HGr
      have Hk1 := Lib.hid (keys_any w.heap.size wr)
      have Hext := Lib.hid hext
      clear hext
      go_wp2_with fail
      refine (Hk1.out).mono ?_
      rintro e w2 ⟨rfl, rfl⟩
      have hxa : Ext wr (wr.alloc (.cells #[.map (some w.heap.size)] 59)) := (Ext.refl wr).alloc _
      have hba := heap_alloc_new wr (.cells #[.map (some w.heap.size)] 59)
      have Hk2 := Lib.hid (sortedK_any w.heap.size (w.heap.size + 1) n wr.heap.size G _ (HGr.out.ext hxa) hnb (block_lt hba) (by unfold World.cell?; rw [hba]; rfl))
      have HGa := Lib.hid (HGr.out.ext hxa)
      have Hxa := Lib.hid (Hext.out.trans hxa)
      clear hxa hba Hk1
      go_wp2_with fail
      refine (Hk2.out).mono ?_
      rintro e w3 ⟨v3, ks, rfl, hown3, hks, hkl, hx3⟩
      obtain ⟨A3, c3, rfl, -, -⟩ := hown3.form
      have Ho3 := Lib.hid (hown3.mono (Nat.zero_le _))
      have HG3 := Lib.hid (HGa.out.ext hx3)
      have Hx3 := Lib.hid (Hxa.out.trans hx3)
      have Hks := Lib.hid hks
      have hz3 := (Hxa.out.trans hx3).size
      clear hown3 hks hx3 Hk2
      go_wp2_with fail
      go_loopw [9, 46] (fun vo vk wi => ∃ (k : Nat) (E : List ((ByteArray × List Int) × REnt)), k ≤ ks.length ∧ vk = .int .i64 (k : Nat) ∧ Own entEl w.heap.size wi vo (E.map Prod.snd) ∧ Hid (∀ x ∈ E, EntO wi x.1 x.2) ∧ Hid (E.map Prod.fst = (ks.take k).map fun s => (s, onceF (G s))) ∧ Hid (GrpS wi w.heap.size (w.heap.size + 1) n G) ∧ Hid (Own strEl 0 wi (.slice A3 ks.length c3) ks) ∧ Ext w wi) (fun _ vk _ => ks.length - (intOf vk).toNat)
      case atStart => exact ⟨0, [], Nat.zero_le _, rfl, Own.nil _, Lib.hid (by simp), Lib.hid rfl, HG3, Ho3, Hx3.out⟩
      case round =>
        clear HG3 Ho3 Hx3
        obtain ⟨k, E, hk, rfl, hown, HE, HEf, HG2, Ho2, hext2⟩ := hrel
        by_cases hjt : k < ks.length
        · have hst : Sl strEl wr A3 ks := by
            obtain ⟨A', c', hv, -, hsl⟩ := Ho2.out.form
            rw [Value.slice.injEq] at hv
            obtain ⟨rfl, -, -⟩ := hv
            exact hsl
          obtain ⟨b3, off3, hAe, hbl3, v0⟩ := strAt hst hjt
          obtain ⟨s, hs⟩ : ∃ s, ks[k] = s := ⟨_, rfl⟩
          have hsG := (Hks.out ks[k]).1 (List.getElem_mem hjt)
          have hsz := Hkey.out _ hsG
          rw [hs] at v0 hsz
          have Hft := Lib.hid (show (ks.take (k + 1)).map (fun s => (s, onceF (G s))) = (ks.take k).map (fun s => (s, onceF (G s))) ++ [(s, onceF (G s))] by rw [List.take_succ_eq_append_getElem hjt, List.map_append, hs]; rfl)
          have hEl := congrArg List.length HEf.out
          rw [List.length_map, List.length_map, List.length_take] at hEl
          have hElb : E.length ≤ 1000000 := by omega
          obtain ⟨A9, c9, rfl, -, -⟩ := hown.form
          have Hown := Lib.hid hown
          have Hext2 := Lib.hid hext2
          have hz2 := hext2.size
          have e2 : decide ((k : Int) < (ks.length : Int)) = true := decide_eq_true (by omega)
          subst hAe
          obtain ⟨Ek, hElr⟩ : ∃ Ek, (E.map Prod.snd).length = Ek := ⟨_, rfl⟩
          have hElr2 : Ek = E.length := by rw [← hElr, List.length_map]
          rw [hElr] at Hown ⊢
          have Hel := Lib.hid hElr2
          clear hst hs hsG hext2 hown hElr hElr2 hEl
          go_wp2_with (refine wpList_lookGrp rfl (.tmp 52) (.tmp 53) rfl HG2.out hnb rfl s rfl (by omega) ?_; intro v1 hv1 hvl hvw hback; clear hback hvw; obtain ⟨A1, c1, rfl, -, hsl1⟩ := hv1.form; have Hon := Lib.hid (once_any A1 c1 (G s) wr hsl1 (by omega)); clear hv1 hsl1 v0)
          refine (Hon.out).mono ?_
          rintro e w5 ⟨v5, rfl, hown5, hx5⟩
          obtain ⟨A5, c5, rfl, -, -⟩ := hown5.form
          have Ho5 := Lib.hid (hown5.mono (Nat.zero_le _))
          have Hx5 := Lib.hid (Hext2.out.trans hx5)
          have HG5 := Lib.hid (HG2.out.ext hx5)
          have Hk5 := Lib.hid (Ho2.out.ext hx5)
          have HE5 := Lib.hid (fun x hx => (HE.out x hx).ext hx5)
          have Hown5 := Lib.hid (Hown.out.ext hx5)
          have hz5 := (Hext2.out.trans hx5).size
          obtain ⟨n5, hn5⟩ : ∃ n5, (onceF (G s)).length = n5 := ⟨_, rfl⟩
          rw [hn5] at Ho5 ⊢
          have Hn5 := Lib.hid hn5
          have hxa : Ext w5 (w5.alloc (.cells #[.string s, .slice A5 n5 c5] 43)) := (Ext.refl w5).alloc _
          have Hxa := Lib.hid hxa
          have Hown6 := Lib.hid (Hown5.out.ext hxa)
          clear hown5 hx5 hn5 hxa Hon
          go_wp2_with (refine wpList_appAt entEl rfl (.tmp 50) (.tmp 57) rfl 1 rfl Hown6.out (ys := [⟨s, A5, n5, c5⟩]) (A := some ⟨w5.heap.size, 0, none⟩) rfl (Sl.new entEl (by simp [El.flat, entEl, REnt.cells])) (by rw [List.length_map]; simp; omega) (by simp; omega) ?_; intro v2 w6 h1 h2 h3; replace h2 : (w5.alloc (.cells #[.string s, .slice A5 n5 c5] 43)).grownBy w6 (Value.slice A9 Ek c9).ownBlock := h2)
          go_roundw
          case rel =>
            have ho := fun {v : Value} {l : List Int} (h : Own intEl 0 w5 v l) => (h.ext Hxa.out).other Hown6.out (by decide) h2
            refine ⟨k + 1, E ++ [((s, onceF (G s)), ⟨s, A5, n5, c5⟩)], by omega, by go_num, by rw [List.map_append]; exact h1, Lib.hid fun x hx => ?_, Lib.hid (by rw [List.map_append, HEf.out, Hft.out]; rfl), Lib.hid ((HG5.out.ext Hxa.out).kept h2 fun j e => ?_), Lib.hid ((Hk5.out.ext Hxa.out).other Hown6.out (by decide) h2), (Hx5.out.trans Hxa.out).grown h2 (by simp; omega) (fun j e => (Hown6.out.bd e).1)⟩
            · rcases List.mem_append.1 hx with hx | hx
              · have h := HE5.out x hx
                exact ⟨h.t, h.n, ho h.p⟩
              · rw [List.mem_singleton.1 hx]
                exact ⟨rfl, Hn5.out.symm, ho Ho5.out⟩
            · obtain ⟨-, cur, hc⟩ := Hown6.out.bd e
              exact ⟨cur, _, _, hc, by decide⟩
          case measure => simp [intOf]; omega
        · have e2 : decide ((k : Int) < (ks.length : Int)) = false := decide_eq_false (by omega)
          have hkn : k = ks.length := by omega
          have HEf2 := Lib.hid (show E.map Prod.fst = ks.map fun s => (s, onceF (G s)) by rw [HEf.out, hkn, List.take_length])
          obtain ⟨A9, c9, rfl, hc9, hs9⟩ := hown.form
          have hEl := congrArg List.length HEf2.out
          rw [List.length_map, List.length_map] at hEl
          have Hs9 := Lib.hid hs9
          have Hc9 := Lib.hid hc9
          have Hext2 := Lib.hid hext2
          have Hel := Lib.hid (show E.length ≤ 1000000 by omega)
          obtain ⟨Ek, hElr⟩ : ∃ Ek, (E.map Prod.snd).length = Ek := ⟨_, rfl⟩
          have Helr := Lib.hid hElr
          rw [hElr]
          clear hkn hown hs9 hc9 hext2 hEl hElr
          go_wp2
          go_ret
          refine ⟨A9, c9, E, by rw [Helr.out]; rfl, Hc9.out, Hs9.out, HE.out, ⟨fun x hx => ?_, fun t ht => ?_⟩, Hel.out, Hext2.out⟩
          · rw [HEf2.out, List.mem_map] at hx
            obtain ⟨t, ht, rfl⟩ := hx
            exact ⟨(Hks.out t).1 ht, rfl⟩
          · rw [HEf2.out]
            exact ⟨_, List.mem_map_of_mem ((Hks.out t).2 ht), rfl⟩
end Go.Proofs.YtjhdamjbljafhaaGreatDoor
namespace Go.Proofs.YtjhdamjbljafhaaGreatDoor
open Go.RowKit
def RetFnd (w : World) (g : ByteArray → List Int) (s : ByteArray) (e : Ending) (w' : World) : Prop := ∃ (A : Option Addr) (c : Nat) (l : List Int), e = .returned (.slice A l.length c) ∧ Sl intEl w' A l ∧ Ext w w' ∧ l.length ≤ 1000000 ∧ (g s ≠ [] → l = onceF (g s))
theorem onceF_len (zs : List Int) : (onceF zs).length ≤ zs.length := by
  have := compact_le (sortF zs)
  rw [sortF_len] at this
  exact this
set_option maxRecDepth 100000 in
set_option maxHeartbeats 3200000 in
theorem find_any8 (s : ByteArray) (A : Option Addr) (c : Nat) (L : List (GPage × RPage)) (w : World) (hs : Sl pageEl w A (L.map Prod.snd)) (hp : ∀ x ∈ L, PageO w x.1 x.2) (hi : PgIn (L.map Prod.fst)) (hnum : ∀ p ∈ L.map Prod.fst, p.n ≤ 1000000) (hgl : ∀ t, (idxG (L.map Prod.fst) t).length ≤ 1000000) :
    Calls Tryz.prog 9 #[.string s, .slice A L.length c] w (RetFnd w (idxG (L.map Prod.fst)) s) := by
  have Hidx := Lib.hid (index_any A c L w hs hp hi hnum)
  obtain ⟨G, hG⟩ : ∃ G, idxG (L.map Prod.fst) = G := ⟨_, rfl⟩
  rw [hG] at Hidx hgl ⊢
  have Hgl := Lib.hid hgl
  clear hs hp hi hnum hG hgl
  go_enter Tryz.func9, Tryz.ntmps9
  go_wp2_with fail
  refine (Hidx.out).mono ?_
  rintro e w2 ⟨A2, c2, E, rfl, hc2, hs2, hE, hok, hEl, hx2⟩
  have Hs2 := Lib.hid hs2
  have HE := Lib.hid hE
  have Hok := Lib.hid hok
  have Hx2 := Lib.hid hx2
  obtain ⟨Ek, hEk⟩ : ∃ Ek, (E.map Prod.snd).length = Ek := ⟨_, rfl⟩
  have hEk2 : Ek = E.length := by rw [← hEk, List.length_map]
  rw [hEk]
  clear hs2 hE hok hx2 hEk hc2 Hidx
  have HEk := Lib.hid hEk2
  have hEkb : Ek ≤ 1000000 := by omega
  clear hEk2
  go_wp2_with fail
  go_loopw [10] (fun vk wr => ∃ (k : Nat), k ≤ Ek ∧ vk = .int .i64 (k : Nat) ∧ Hid (∀ x ∈ E.take k, x.1.1 ≠ s) ∧ Ext w2 wr) (fun vk _ => Ek - (intOf vk).toNat)
  case atStart => exact ⟨0, Nat.zero_le _, rfl, Lib.hid (by simp), Ext.refl _⟩
  case round =>
    obtain ⟨k, hk, rfl, Hno, hext⟩ := hrel
    by_cases hlt : k < Ek
    · have hltE : k < E.length := by rw [← HEk.out]; exact hlt
      obtain ⟨b, off, hAe, hbl, u0, u1⟩ := entAt (Hs2.out.ext hext) (k := k) (by rw [List.length_map]; exact hltE)
      obtain ⟨x, hx⟩ : ∃ x, E[k] = x := ⟨_, rfl⟩
      rw [List.getElem_map, hx] at u0 u1
      have hxm : x ∈ E := hx ▸ List.getElem_mem hltE
      have heo := (HE.out x hxm).ext hext
      have hxk := Hok.out.1 x.1 (List.mem_map_of_mem hxm)
      have Hno2 := Lib.hid (show E.take (k + 1) = E.take k ++ [x] by rw [List.take_succ_eq_append_getElem hltE, hx])
      obtain ⟨⟨t, ps⟩, ⟨rt, pA, pn, pc⟩⟩ := x
      obtain ⟨ht, hn, hpp⟩ := heo
      dsimp only at u0 u1 ht hn hpp hxk
      subst ht hn
      subst hAe
      have Hpp := Lib.hid hpp
      have Hxk := Lib.hid hxk
      have e1 : decide ((k : Int) < (Ek : Int)) = true := decide_eq_true (by omega)
      have hxa : Ext wr (wr.alloc (.cells #[.string rt, .slice pA ps.length pc] 43)) := (Ext.refl wr).alloc _
      have Hxa := Lib.hid (hext.trans hxa)
      have Hpa := Lib.hid (hpp.ext hxa)
      clear hx hxm hpp hxk hxa hext
      by_cases heq : rt = s
      · subst heq
        have e3 : (rt.toList == rt.toList) = true := by simp
        go_wp2
        go_ret
        obtain ⟨A', c', hv, -, hsl⟩ := Hpa.out.form
        rw [Value.slice.injEq] at hv
        obtain ⟨rfl, -, -⟩ := hv
        have hl := onceF_len (G rt)
        rw [← Hxk.out.2] at hl
        exact ⟨pA, pc, ps, rfl, hsl, Hx2.out.trans Hxa.out, Nat.le_trans hl (Hgl.out rt), fun _ => Hxk.out.2⟩
      · have e3 : (rt.toList == s.toList) = false := by rw [beq_bytes]; simp [heq]
        have Heq := Lib.hid heq
        clear heq
        go_wp2
        go_roundw
        case rel =>
          refine ⟨k + 1, by omega, by go_num, Lib.hid ?_, Hxa.out⟩
          rw [Hno2.out]
          intro y hy
          rcases List.mem_append.1 hy with hy | hy
          · exact Hno.out y hy
          · rw [List.mem_singleton.1 hy]
            exact Heq.out
        case measure => simp [intOf]; omega
    · have e1 : decide ((k : Int) < (Ek : Int)) = false := decide_eq_false (by omega)
      have hkn : k = E.length := by rw [← HEk.out]; omega
      have Hall := Lib.hid (show G s = [] from by
        have h := Hno.out
        rw [hkn, List.take_length] at h
        refine Classical.byContradiction fun hne => ?_
        obtain ⟨y, hy, e⟩ := Hok.out.2 s hne
        rw [List.mem_map] at hy
        obtain ⟨z, hz, rfl⟩ := hy
        exact h z hz e)
      have Hext := Lib.hid hext
      clear hkn hext
      go_wp2
      go_ret
      exact ⟨none, 0, [], rfl, Sl.nil, Hx2.out.trans Hext.out, by simp, fun h => absurd Hall.out h⟩
end Go.Proofs.YtjhdamjbljafhaaGreatDoor
