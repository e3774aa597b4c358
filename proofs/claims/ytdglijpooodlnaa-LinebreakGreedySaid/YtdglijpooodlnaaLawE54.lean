/- The law on the greedy lines: the walk. -/
import Derived.Test.YtdglijpooodlnaaLawC54
import Derived.Test.YtdglijpooodlnaaPlainC54
import Derived.BigQuiet
namespace Go.Proofs.Ytdglijpooodlnaa
open Go.RowKit

section
variable {P : Program} {α : Type} (D : El P α) {w : World} {A B : Option Addr} {xs ys : List α} {ρ : Operand → Value} {o : Oper}
/-- an empty row of the call's own, without room -/
def TEmpty (base : Nat) : Ty := ⟨fun v w => ∃ A, v = .slice A 0 0 ∧ Own D base w v ([] : List α), fun _ _ _ he ⟨A, h1, h2⟩ => ⟨A, h1, h2.ext he⟩⟩
theorem yld_empty {base : Nat} (ho : o.op = .buildSlice D.t 0 #[]) (hbase : base ≤ w.heap.size) (hr : ∀ w, (Instr.buildSlice D.t 0 #[]).run P w = .ok (.slice (some ⟨w.heap.size, 0, none⟩) 0 0) (w.alloc (.cells #[] D.e)) := by intro w; first | (go_simp; rfl) | (change (Instr.buildSlice _ _ _).run _ w = _; go_simp; rfl)) : Yld P ρ o w (TEmpty D base).p := by
  refine yld_run (w' := w.alloc (.cells #[] D.e)) (v := .slice (some ⟨w.heap.size, 0, none⟩) 0 0) ?_ ((Ext.refl _).alloc _) ⟨_, rfl, Own.made D hbase⟩
  simp [execOp, ho, hr]
/-- append onto it -/
theorem yld_appOwn (s x : Operand) (ho : o.op = .call { callee := .builtin .append, args := #[s, x], argTypes := #[D.t, D.t] }) (c base : Nat) (A : Option Addr) (hs : ρ s = .slice A 0 0) (hown : Own D base w (.slice A 0 0) ([] : List α)) (hx : ρ x = .slice B ys.length c)
    (h2 : Sl D w B ys) (hn : ys.length ≤ 68719476736) (hbase : base ≤ w.heap.size) : Yld P ρ o w (TOwn D base ys).p := by
  have hr := run_appFull D (xs := ([] : List α)) (A := A) o.type c Sl.nil h2 (by simpa using hn)
  unfold Yld execOp
  simp only [ho, resolve, invoke, builtin, Sem.run_bind, Sem.run_pure, Result.andThen_ok, List.map_toArray, List.map_cons, List.map_nil, hs, hx]
  rcases hr with ⟨h0, hr⟩ | ⟨h0, v', w', hr, hown', hext⟩
  · subst h0
    have hr2 : (Builtin.append_ #[D.t, D.t] o.type #[.slice A 0 0, .slice B ([] : List α).length c]).run P w = .ok (.slice A 0 0) w := hr
    simp only [hr2, Result.andThen_ok]
    exact ⟨Ext.refl _, hown⟩
  · have hr2 : (Builtin.append_ #[D.t, D.t] o.type #[.slice A 0 0, .slice B ys.length c]).run P w = .ok v' w' := hr
    simp only [hr2, Result.andThen_ok]
    refine ⟨hext, ?_⟩
    show Own D base w' v' ys
    simpa using hown'.mono hbase
theorem yld_slTo (x hi : Operand) (ho : o.op = .slice D.t x none (some hi) none) (c : Nat) (hx : ρ x = .slice A xs.length c) (h : Nat) (hhi : ρ hi = .int .i64 h)
    (hsl : Sl D w A xs) (h2 : h ≤ xs.length) (h3 : xs.length ≤ c) : Yld P ρ o w (TSl D (xs.take h)).p := by
  have hr := run_slice_any D (w := w) (A := A) (c := c) xs.length 0 h c none (some (.int .i64 h)) none rfl rfl rfl (Nat.zero_le _) (by omega) (Nat.le_refl _) h3
  unfold Yld execOp
  simp only [ho, hx, hhi, Option.map_some, Option.map_none, Sem.run_bind, Sem.run_pure, hr, Result.andThen_ok]
  refine ⟨Ext.refl _, ?_⟩
  have hs := Sl.cut D hsl 0 h (Nat.zero_le _) h2 h3
  simp only [List.drop_zero, Nat.sub_zero] at hs ⊢
  have e : h = (xs.take h).length := by simp; omega
  have e2 : (Value.slice (if c = 0 then A else A.map (·.add (0 * D.m))) h c) = .slice (if c = 0 then A else A.map (·.add (0 * D.m))) (xs.take h).length c := by rw [← e]
  rw [e2]
  exact ⟨_, _, rfl, by rw [← e]; omega, hs⟩
end

theorem costR_greedy {l : List ByteArray} {W : Int} (h : wrongF W l = 0) (hb : briefP l 60) : ∃ n, costR l W (gR l W) = (n, 0) := by
  have hF := fit_of h hb
  have h3 : Val l W 0 (gLines l W) := gLines_val hF l.length 0 (Nat.zero_le _) (by omega)
  refine ⟨tc l W 0 (gLines l W), ?_⟩
  rw [gR_yes h, costR_yes h h3.ends, costF_some _ _ _ h3.fit, Int.zero_add]
  rfl
theorem Val.mem {l : List ByteArray} {W : Int} : ∀ {es : List Int} {a : Nat}, Val l W a es → ∀ e ∈ es, 0 ≤ e ∧ e ≤ l.length
  | [], _, _, e, he => by cases he
  | x :: xs, a, h, e, he => by
    obtain ⟨g, rfl, h1, h2, h3, h4⟩ := h.cons
    rcases List.mem_cons.1 he with rfl | he
    · omega
    · exact Val.mem h4 e he
theorem greedy_least {l : List ByteArray} {W : Int} {es : List Int} (h : wrongF W l = 0) (hb : briefP l 60) (he : (costR l W es).2 = 0) : (gR l W).length ≤ es.length := by
  obtain ⟨n, hn⟩ : ∃ n, (costR l W es).1 = n := ⟨_, rfl⟩
  obtain ⟨h1, h2, h3⟩ := costR_val (show costR l W es = (n, 0) by rw [← hn, ← he])
  rw [gR_yes h]
  exact greedy_few (fit_of h hb) es l.length 0 0 (Nat.zero_le _) (Nat.le_refl _) h2

set_option maxRecDepth 100000 in
set_option maxHeartbeats 6400000 in
theorem greedy_law (W : Int) (E : Option Addr) (ec : Nat) (es : List Int) (A : Option Addr) (c : Nat) (l : List ByteArray) (w : World) (hs : Sl strEl w A l) (he : Sl intEl w E es) (hc : l.length ≤ c) (hn : l.length ≤ 9223372036854775807) (hen : es.length ≤ 9223372036854775807) :
    Calls Try.prog 7 #[.int .i64 W, .slice E es.length ec, .slice A l.length c] w (RetTrue w) := by
  have Ha := Lib.hid (awake_any w)
  have Hs := Lib.hid hs
  have He := Lib.hid he
  have Hb := Lib.hid (fun w' (hx : Ext w w') => brief_any A c l 60 w' (hs.ext hx) hn)
  clear hs he
  go_enter Try.func7, Try.ntmps7
  go_wp2_with fail
  refine (Ha.out).mono ?_
  rintro e w1 ⟨rfl, hx1⟩
  go_wp2_with fail
  refine (Hb.out _ hx1).mono ?_
  rintro e w2 ⟨b, rfl, hb, hx2⟩
  cases b with
  | false =>
    go_wp2
    go_ret
    exact ⟨rfl, hx1.trans hx2⟩
  | true =>
    have HB := Lib.hid (hb rfl)
    clear hb
    have hx12 := hx1.trans hx2
    by_cases h100 : es.length > 100
    · have d1 : decide ((es.length : Int) > 100) = true := decide_eq_true (by omega)
      go_wp2
      go_ret
      exact ⟨rfl, hx12⟩
    · have d1 : decide ((es.length : Int) > 100) = false := decide_eq_false (by omega)
      have H1 : Hid (∀ w', Ext w w' → Calls Try.prog 14 #[.int .i64 W, .slice A l.length c] w' (RetEnds w' (gR l W) (wrongF W l))) := Lib.hid fun w' hx => greedy_any A c l W w' (Hs.out.ext hx) HB.out
      have H2 : Hid (∀ w', Ext w w' → Calls Try.prog 17 #[.int .i64 W, .slice E es.length ec, .slice A l.length c] w' (Ret2 w' (costR l W es))) := Lib.hid fun w' hx => cost_any E A ec c l W es w' (Hs.out.ext hx) hc (He.out.ext hx) hen HB.out
      by_cases hw : wrongF W l = 0
      · obtain ⟨n0, hcg⟩ := costR_greedy hw HB.out
        have hPl := gR_len (W := W) HB.out
        have hPm : ∀ e ∈ gR l W, 0 ≤ e ∧ e ≤ 60 := fun e he => by
          have h3 : Val l W 0 (gLines l W) := gLines_val (fit_of hw HB.out) l.length 0 (Nat.zero_le _) (by omega)
          rw [gR_yes hw] at he
          have h4 := h3.mem e he
          have h5 := HB.out.1
          omega
        have hmore : ∀ (i : Nat) (p : Int) (R : List Int), (gR l W)[i]? = some p → (costR l W ((gR l W).take i ++ (p + 1) :: R)).2 ≠ 0 := fun i p R h => by
          rw [gR_yes hw] at h ⊢
          exact costR_more h
        have hleast := fun he => greedy_least (es := es) hw HB.out he
        have hl60 := HB.out.1
        rw [hw] at H1
        obtain ⟨P, hP⟩ : ∃ P, gR l W = P := ⟨_, rfl⟩
        rw [hP] at H1 hcg hPl hPm hmore hleast
        have H3 : Hid (∀ w' D dc, Ext w w' → Sl intEl w' D P → Calls Try.prog 17 #[.int .i64 W, .slice D P.length dc, .slice A l.length c] w' (Ret2 w' (n0, 0))) := Lib.hid fun w' D dc hx h => by
          have := cost_any D A dc c l W P w' (Hs.out.ext hx) hc h (by omega) HB.out
          rwa [hcg] at this
        have H4 : Hid (∀ w' D dc (xs : List Int), xs.length ≤ 9223372036854775807 → Ext w w' → Sl intEl w' D xs → Calls Try.prog 17 #[.int .i64 W, .slice D xs.length dc, .slice A l.length c] w' (Ret2 w' (costR l W xs))) := Lib.hid fun w' D dc xs hxs hx h =>
          cost_any D A dc c l W xs w' (Hs.out.ext hx) hc h hxs HB.out
        obtain ⟨⟨n, f⟩, hp⟩ : ∃ p, costR l W es = p := ⟨_, rfl⟩
        rw [hp] at H2 hleast
        have Hle := Lib.hid hleast
        have Hm := Lib.hid hmore
        have HPm := Lib.hid hPm
        clear hP hp hcg hw hleast hmore hPm hx1 hx2
        go_wp2_with fail
        refine (H1.out _ hx12).mono ?_
        rintro e w3 ⟨vB, rfl, ho3, hx3⟩
        obtain ⟨D, dc, rfl, hdc, hs3⟩ := ho3.form
        go_wp2_with fail
        refine (H3.out _ _ _ (hx12.trans hx3) hs3).mono ?_
        rintro e w4 ⟨rfl, hx4⟩
        go_wp2_with fail
        refine (H2.out _ ((hx12.trans hx3).trans hx4)).mono ?_
        rintro e w5 ⟨rfl, hx5⟩
        have Hx5 := Lib.hid (((hx12.trans hx3).trans hx4).trans hx5)
        have Hs5 := Lib.hid (hs3.ext (hx4.trans hx5))
        have hcase : ((f == 0) = true ∧ decide ((P.length : Int) > (es.length : Int)) = false ∧ decide (es.length < P.length) = false) ∨ (f == 0) = false := by
          by_cases hf : f = 0
          · have := Hle.out hf
            exact .inl ⟨by simp [hf], decide_eq_false (by omega), decide_eq_false (by omega)⟩
          · exact .inr (by simp [hf])
        clear ho3 hs3 hx3 hx4 hx5 hx12 Hle
        rcases hcase with ⟨e1, e2, e3⟩ | e1
        all_goals
          go_wp2
          go_loopw [13, 14, 15, 16] (fun vi _ _ _ wr => ∃ k : Nat, k ≤ P.length ∧ vi = .int .i64 (k : Nat) ∧ Ext w5 wr) (fun vi _ _ _ _ => P.length - (intOf vi).toNat)
          case atStart => exact ⟨0, Nat.zero_le _, rfl, Ext.refl _⟩
          case round =>
            obtain ⟨k, hk, rfl, hext⟩ := hrel
            by_cases hlt : k + 1 < P.length
            · have hsP := Hs5.out.ext hext
              have hk0 : k < P.length := by omega
              obtain ⟨p, hp⟩ : ∃ p, P[k] = p := ⟨_, rfl⟩
              obtain ⟨q, hq0⟩ : ∃ q, P[k + 1] = q := ⟨_, rfl⟩
              have hPk : P[k]? = some p := by rw [List.getElem?_eq_getElem hk0, hp]
              have hpb := HPm.out p (by rw [← hp]; exact List.getElem_mem hk0)
              have hqb := HPm.out q (by rw [← hq0]; exact List.getElem_mem hlt)
              have d2 : decide ((k : Int) + 1 < (P.length : Int)) = true := decide_eq_true (by omega)
              have Hp := Lib.hid hp
              have Hq0 := Lib.hid hq0
              have HPk := Lib.hid hPk
              clear hp hq0
              go_wp2
              have hPk := HPk.out
              clear HPk
              refine wp_drawn_tail 11 (fun i => match i with | 0 => TEmpty intEl wr.heap.size | 1 => Ty.is (.slice D P.length dc) | 2 => Ty.is (.int .i64 (k : Nat)) | 3 => TSl intEl (P.take k) | 4 => TOwn intEl wr.heap.size (P.take k) | 5 => Ty.is (.slice D P.length dc) | 6 => Ty.is (.int .i64 (k : Nat)) | 7 => TCells [.int .i64 p] | 8 => Ty.is (.int .i64 p) | 9 => Ty.is (.int .i64 (p + 1)) | 10 => TOwn intEl wr.heap.size [p + 1] | _ => Ty.any) (by kernel_rfl) (by kernel_rfl) (by kernel_rfl) (by decide) rfl ?_
              intro v
              refine ⟨?_, ?_, ?_, ?_, ?_, ?_, ?_, ?_, ?_, ?_, ?_, ?_⟩
              · intro wq hq hd
                refine ob_plain rfl ?_
                exact yld_empty intEl rfl hq.size
              · intro wq hq hd
                refine ob_plain rfl ?_
                exact yld_move (.tmp 7) rfl rfl rfl
              · intro wq hq hd
                refine ob_plain rfl ?_
                exact yld_move (.tmp 13) rfl rfl rfl
              · intro wq hq hd
                obtain ⟨h0, h1, -⟩ := hd
                change v 1 = _ at h0
                change v 2 = _ at h1
                refine ob_plain rfl ?_
                exact yld_slTo intEl (.tmp 71) (.tmp 72) rfl dc h0 k h1 (hsP.ext hq) (by omega) hdc
              · intro wq hq hd
                obtain ⟨h0, h1, -⟩ := hd
                change (TEmpty intEl wr.heap.size).p (v 0) wq at h0
                change (TSl intEl (P.take k)).p (v 3) wq at h1
                refine ob_plain rfl ?_
                obtain ⟨A0, e0, o0⟩ := h0
                obtain ⟨A1, c1, e1, hc1, s1⟩ := h1
                exact yld_appOwn intEl (.tmp 70) (.tmp 73) rfl c1 _ A0 e0 (e0 ▸ o0) e1 s1 (by rw [List.length_take]; omega) hq.size
              · intro wq hq hd
                refine ob_plain rfl ?_
                exact yld_move (.tmp 7) rfl rfl rfl
              · intro wq hq hd
                refine ob_plain rfl ?_
                exact yld_move (.tmp 13) rfl rfl rfl
              · intro wq hq hd
                obtain ⟨h0, h1, -⟩ := hd
                change v 5 = _ at h0
                change v 6 = _ at h1
                refine ob_plain rfl ?_
                exact yld_indexAt intEl (.tmp 75) (.tmp 76) rfl D P dc h0 k h1 (hsP.ext hq) p hPk
              · intro wq hq hd
                obtain ⟨h0, -⟩ := hd
                change (TCells [.int .i64 p]).p (v 7) wq at h0
                refine ob_plain rfl ?_
                exact yld_loadOne 3 (.tmp 77) rfl Try.isAgg3 (c := .int .i64 p) h0 rfl
              · intro wq hq hd
                obtain ⟨h0, -⟩ := hd
                change v 8 = _ at h0
                refine ob_plain rfl ?_
                exact yld_binInt .add 3 3 (.tmp 78) _ rfl _ _ h0 rfl (run_add_i64 _ _ _ (by omega) (by omega)) rfl
              · intro wq hq hd
                obtain ⟨h0, -⟩ := hd
                change v 9 = _ at h0
                refine ob_plain rfl ?_
                exact yld_buildSlice intEl 1 [(0, _)] rfl [(0, .int .i64 (p + 1))] ⟨⟨rfl, h0⟩, trivial⟩ _ hq.size _ rfl (by decide) (fun w => by change (Instr.buildSlice 25 1 _).run _ w = _; go_simp; rfl)
              · intro wq hq hT
                have k4 := hT 4 (by decide)
                change (TOwn intEl wr.heap.size (P.take k)).p (v 4) wq at k4
                have k10 := hT 10 (by decide)
                change (TOwn intEl wr.heap.size [p + 1]).p (v 10) wq at k10
                clear hT
                simp only [List.drop_succ_cons, List.drop_zero, putE, setsE, List.set_cons_succ, List.set_cons_zero, Nat.reduceAdd]
                generalize v 4 = x4 at k4 ⊢
                generalize v 10 = x10 at k10 ⊢
                have HPk := Lib.hid hPk
                clear hPk
                obtain ⟨A10, c10, rfl, hc10, hs10⟩ := k10.form
                have HsPq := Lib.hid (hsP.ext hq)
                clear hsP
                have hlen1 : (P.take k).length = k := by rw [List.length_take]; omega
                have Hl1 := Lib.hid hlen1
                clear hlen1
                go_wp2_with (at_builtin; refine wpList_app intEl rfl (.tmp 74) (.tmp 80) rfl _ rfl k4 rfl hs10 (by rw [Hl1.out]; simp; omega) hq.size ?_; intro v6 w6 hown6 hb6 hg6; have hr6 : Ext wr w6 := Ext.trans' hq hb6; have hx6 := hext.trans hr6)
                have hbase6 : wr.heap.size ≤ w6.heap.size := hr6.size
                obtain ⟨bP, oP, rfl, qP, uP⟩ := intAt (Hs5.out.ext hx6) hk0
                obtain ⟨bP2, oP2, hDP, qP2, uP2⟩ := intAt (Hs5.out.ext hx6) hlt
                cases hDP
                rw [Hp.out] at uP
                rw [Hq0.out] at uP2
                have uP3 := uP2
                rw [← Nat.add_assoc] at uP3
                have a1 : IntKind.i64.wrap ((k : Int) + 1) = (k : Int) + 1 := IntWalk.i64_in _ (by omega)
                have a2 : (0 : Int) ≤ (k : Int) + 1 := by omega
                have a3 : ((k : Int) + 1).toNat = k + 1 := by omega
                have a4 : IntKind.i64.wrap (p + 1) = p + 1 := IntWalk.i64_in _ (by omega)
                have a5 : ((k : Int) < (P.length : Int)) := by omega
                have a6 : ((k : Int) + 1 < (P.length : Int)) := by omega
                have a7 : decide ((k : Int) + 2 > (P.length : Int)) = false := decide_eq_false (by omega)
                have a8 : IntKind.i64.wrap ((k : Int) + 2) = (k : Int) + 2 := IntWalk.i64_in _ (by omega)
                by_cases hpq : p + 1 < q
                · have d3 : decide (p + 1 < q) = true := decide_eq_true hpq
                  have d4 : (p + 1 == q) = false := by simp; omega
                  clear hpq
                  go_quiet (fail)
                  go_wp2_with (at_builtin; refine wpList_app intEl rfl _ _ rfl 1 rfl (hown6.ext (Ext.alloc (Ext.drewN (Ext.refl _) _) _)) (ys := [q]) rfl (Sl.new intEl rfl) (by simp [Hl1.out]; omega) (by simp; omega) ?_; intro v7 w7 hown7 hb7 hg7)
                  have hr7 : Ext wr w7 := Ext.trans' (hr6.trans (Ext.alloc (Ext.drewN (Ext.refl _) _) _)) hb7
                  have hx7 := hext.trans hr7
                  obtain ⟨_, _, hD7, _, uP7⟩ := intAt (Hs5.out.ext hx7) hk0
                  obtain ⟨_, _, hD8, _, uP8⟩ := intAt (Hs5.out.ext hx7) hlt
                  cases hD7
                  cases hD8
                  rw [Hp.out] at uP7
                  rw [Hq0.out] at uP8
                  have uP9 := uP8
                  rw [← Nat.add_assoc] at uP9
                  obtain ⟨M, hM⟩ : ∃ M, P.take k ++ [p + 1] ++ [q] = M := ⟨_, rfl⟩
                  have hML : M.length ≤ 62 := by rw [← hM]; simp [Hl1.out]; omega
                  have HM := Lib.hid (show M = P.take k ++ (p + 1) :: [q] by rw [← hM]; simp)
                  have hownM := hown7
                  rw [hM] at hownM
                  clear hM
                  have hsPM := Hs5.out.ext hx7
                  go_quiet (fail)
                  go_wp2_with (first | (refine wpList_slFrom intEl rfl _ _ rfl rfl _ rfl (hsPM.ext (Ext.drewN (Ext.refl _) _)) (k + 2) (by omega) (by omega) hdc ?_; intro A7 ys c7 Hys hl7 hs7; have hyl : ys.length ≤ 60 := (by rw [Hys.out] <;> simp <;> omega)) |
                    (at_builtin; refine wpList_app intEl rfl (.tmp 119) (.tmp 126) rfl _ rfl (hownM.ext (Ext.drewN (Ext.refl _) _)) rfl hs7 (by omega) (by have := hr7.size; simp; omega) ?_; intro v8 w8 hown8 hb8 hg8; obtain ⟨M2, hM2⟩ : ∃ M2, M ++ ys = M2 := ⟨_, rfl⟩; rw [hM2] at hown8; have hm2p : 0 < M2.length := (by rw [← hM2, HM.out]; simp only [List.length_append, List.length_cons]; omega); have hm2l : M2.length ≤ 200 := (by rw [← hM2, List.length_append]; omega); have HM2 := Lib.hid (show M2 = P.take k ++ (p + 1) :: ([q] ++ P.drop (k + 2)) by rw [← hM2, HM.out, Hys.out] <;> simp); clear hM2; have hx8 := Lib.hid (hext.trans (Ext.trans' (hr7.drewN _) hb8)); obtain ⟨A8, c8, rfl, hc8, hs8⟩ := hown8.form; obtain ⟨b8, o8, rfl, q8, u8⟩ := intAt hs8 (show M2.length - 1 < M2.length by omega); obtain ⟨x8, hx8e⟩ : ∃ x8, M2[M2.length - 1] = x8 := ⟨_, rfl⟩; rw [hx8e] at u8; clear hx8e; have b1 : IntKind.i64.wrap ((M2.length : Int) - 1) = (M2.length : Int) - 1 := IntWalk.i64_in _ (by omega); have b2 : (0 : Int) ≤ (M2.length : Int) - 1 := (by omega); have b3 : ((M2.length : Int) - 1).toNat = M2.length - 1 := (by omega); have b4 : ((M2.length : Int) - 1 < (M2.length : Int)) := (by omega)))
                  · go_roundw
                    case rel => exact ⟨k + 1, by omega, by go_num, hx8.out⟩
                    case measure => simp [intOf]; omega
                  · obtain ⟨⟨n8, f8⟩, hp8⟩ : ∃ p, costR l W M2 = p := ⟨_, rfl⟩
                    have hne := Hm.out k p ([q] ++ P.drop (k + 2)) HPk.out
                    rw [← HM2.out, hp8] at hne
                    have H5 := H4.out w8 _ c8 M2 (by omega) (Hx5.out.trans hx8.out) hs8
                    rw [hp8] at H5
                    have e9 : (f8 == 0) = false := by simpa using hne
                    clear hp8 hne
                    refine H5.mono ?_
                    rintro e w9 ⟨rfl, hx9⟩
                    go_wp2
                    go_roundw
                    case rel => exact ⟨k + 1, by omega, by go_num, hx8.out.trans hx9⟩
                    case measure => simp [intOf]; omega
                · have d3 : decide (p + 1 < q) = false := decide_eq_false hpq
                  clear hpq
                  rcases (Bool.eq_false_or_eq_true (p + 1 == q)) with d4 | d4
                  all_goals
                    go_quiet (fail)
                    go_wp2
                    obtain ⟨M, hM⟩ : ∃ M, P.take k ++ [p + 1] = M := ⟨_, rfl⟩
                    have hML : M.length ≤ 62 := by rw [← hM]; simp [Hl1.out]; omega
                    have HM := Lib.hid (show M = P.take k ++ (p + 1) :: [] by rw [← hM])
                    have hownM := hown6
                    rw [hM] at hownM
                    clear hM
                    have hsPM := Hs5.out.ext hx6
                    go_quiet (fail)
                    go_wp2_with (first | (refine wpList_slFrom intEl rfl _ _ rfl rfl _ rfl (hsPM.ext (Ext.drewN (Ext.refl _) _)) (k + 2) (by omega) (by omega) hdc ?_; intro A7 ys c7 Hys hl7 hs7; have hyl : ys.length ≤ 60 := (by rw [Hys.out] <;> simp <;> omega)) |
                      (at_builtin; refine wpList_app intEl rfl (.tmp 119) (.tmp 126) rfl _ rfl (hownM.ext (Ext.drewN (Ext.refl _) _)) rfl hs7 (by omega) (by have := hr6.size; simp; omega) ?_; intro v8 w8 hown8 hb8 hg8; obtain ⟨M2, hM2⟩ : ∃ M2, M ++ ys = M2 := ⟨_, rfl⟩; rw [hM2] at hown8; have hm2p : 0 < M2.length := (by rw [← hM2, HM.out]; simp only [List.length_append, List.length_cons]; omega); have hm2l : M2.length ≤ 200 := (by rw [← hM2, List.length_append]; omega); have HM2 := Lib.hid (show M2 = P.take k ++ (p + 1) :: ([] ++ P.drop (k + 2)) by rw [← hM2, HM.out, Hys.out] <;> simp); clear hM2; have hx8 := Lib.hid (hext.trans (Ext.trans' (hr6.drewN _) hb8)); obtain ⟨A8, c8, rfl, hc8, hs8⟩ := hown8.form; obtain ⟨b8, o8, rfl, q8, u8⟩ := intAt hs8 (show M2.length - 1 < M2.length by omega); obtain ⟨x8, hx8e⟩ : ∃ x8, M2[M2.length - 1] = x8 := ⟨_, rfl⟩; rw [hx8e] at u8; clear hx8e; have b1 : IntKind.i64.wrap ((M2.length : Int) - 1) = (M2.length : Int) - 1 := IntWalk.i64_in _ (by omega); have b2 : (0 : Int) ≤ (M2.length : Int) - 1 := (by omega); have b3 : ((M2.length : Int) - 1).toNat = M2.length - 1 := (by omega); have b4 : ((M2.length : Int) - 1 < (M2.length : Int)) := (by omega)))
                    · go_roundw
                      case rel => exact ⟨k + 1, by omega, by go_num, hx8.out⟩
                      case measure => simp [intOf]; omega
                    · obtain ⟨⟨n8, f8⟩, hp8⟩ : ∃ p, costR l W M2 = p := ⟨_, rfl⟩
                      have hne := Hm.out k p ([] ++ P.drop (k + 2)) HPk.out
                      rw [← HM2.out, hp8] at hne
                      have H5 := H4.out w8 _ c8 M2 (by omega) (Hx5.out.trans hx8.out) hs8
                      rw [hp8] at H5
                      have e9 : (f8 == 0) = false := by simpa using hne
                      clear hp8 hne
                      refine H5.mono ?_
                      rintro e w9 ⟨rfl, hx9⟩
                      go_wp2
                      go_roundw
                      case rel => exact ⟨k + 1, by omega, by go_num, hx8.out.trans hx9⟩
                      case measure => simp [intOf]; omega
            · have d2 : decide ((k : Int) + 1 < (P.length : Int)) = false := decide_eq_false (by omega)
              go_wp2
              go_ret
              exact ⟨rfl, Hx5.out.trans hext⟩
      · have hga := fun w' (hx : Ext w w') => greedy_any A c l W w' (Hs.out.ext hx) HB.out
        rw [show gR l W = [] by unfold gR; rw [if_neg hw]] at hga
        have hz : (wrongF W l != 0) = true := by simp [hw]
        obtain ⟨Z, hZ⟩ : ∃ Z, wrongF W l = Z := ⟨_, rfl⟩
        rw [hZ] at hga hz
        have H1 := Lib.hid hga
        clear hga hZ hw
        go_wp2_with fail
        refine (H1.out _ hx12).mono ?_
        rintro e w3 ⟨v3, rfl, ho3, hx3⟩
        obtain ⟨A3, c3, hv3, hc3, hs3⟩ := ho3.form
        simp only [List.length_nil] at hv3
        subst hv3
        go_wp2
        go_ret
        exact ⟨rfl, hx12.trans hx3⟩

end Go.Proofs.Ytdglijpooodlnaa
