/- paginate.body: the lines of all units of a tree. -/
import Derived.Test.YtjhdamjbljafhaaGreatDoorP41
import Derived.Test.YtjhdamjbljafhaaGreatDoorP42
import Derived.Test.YtjhdamjbljafhaaGreatDoorP24
namespace Go.Proofs.YtjhdamjbljafhaaGreatDoor
open Go.RowKit
theorem NoteO.ext {w w' : World} {x : GLn} (h : NoteO w x) (he : Ext w w') : NoteO w' x := ⟨h.1.ext he, h.2⟩
def TNo : Ty := ⟨fun _ _ => False, fun _ _ _ _ h => h⟩
def TLines (W : Int) (N : Nat) : Ty := ⟨fun v w => ∃ A c, ∃ ys : List GLn, v = .slice A ys.length c ∧ ys.length ≤ c ∧ Sl lineEl w A (ys.map Prod.fst) ∧ (∀ x ∈ ys, NoteO w x) ∧ (∀ x ∈ ys, LnOk W x) ∧ wsum ys = N,
  fun _ _ _ he ⟨A, c, ys, h1, h2, h3, h4, h5, h6⟩ => ⟨A, c, ys, h1, h2, h3.ext he, fun x hx => (h4 x hx).ext he, h5, h6⟩⟩
def TMore (base : Nat) (W : Int) (xs : List GLn) (N : Nat) : Ty := ⟨fun v w => ∃ ys : List GLn, Own lineEl base w v ((xs ++ ys).map Prod.fst) ∧ (∀ x ∈ ys, NoteO w x) ∧ (∀ x ∈ ys, LnOk W x) ∧ wsum ys = N,
  fun _ _ _ he ⟨ys, h1, h2, h3, h4⟩ => ⟨ys, h1.ext he, fun x hx => (h2 x hx).ext he, h3, h4⟩⟩
theorem yldWI_app {P : Program} {α : Type} {D : El P α} {ρ : Operand → Value} {o : Oper} {w : World} {xs ys : List α} {B : Option Addr} {v : Value} {I : Wd} {T : Value → World → Prop} (s x : Operand) (ho : o.op = .call { callee := .builtin .append, args := #[s, x], argTypes := #[D.t, D.t] }) (c base : Nat) (hs : ρ s = v) (hown : Own D base w v xs) (hx : ρ x = .slice B ys.length c)
    (h2 : Sl D w B ys) (hn : xs.length + ys.length ≤ 68719476736) (hbase : base ≤ w.heap.size) (h : ∀ v' w', Own D base w' v' (xs ++ ys) → Below base w w' → w.grownBy w' v.ownBlock → I.p w' ∧ T v' w') : YldWI P ρ o I w T := by
  obtain ⟨v', w', hr, h3, h4, h5⟩ := run_app D o.type hown c h2 hn hbase
  unfold YldWI execOp
  simp only [ho, resolve, invoke, builtin, Sem.run_bind, Sem.run_pure, Result.andThen_ok, List.map_toArray, List.map_cons, List.map_nil, hs, hx, hr]
  exact h v' w' h3 h4 h5
theorem boxT_of {w : World} {b : Nat} {cs : List Value} {t : TypeId} {fr : Nat × Nat} (h : w.heap[b]? = some (.cells cs.toArray t fr)) : (TCells cs).p (.pointer (some ⟨b, 0, none⟩)) w :=
  ⟨b, 0, rfl, block_lt h, fun j u hj => by rw [Nat.zero_add]; unfold World.cell?; rw [h]; simpa using hj⟩
theorem bodyL_app (root : Bool) (wd : List GWord) : ∀ (a b : List GUnit), bodyL root wd (a ++ b) = bodyL root wd a + bodyL root wd b
  | [], b => by rw [bodyL]; simp
  | x :: a, b => by rw [List.cons_append, bodyL, bodyL, bodyL_app root wd a b]; omega
theorem bodyL_le (root : Bool) (wd : List GWord) (l : List GUnit) (k : Nat) : bodyL root wd (l.take k) ≤ bodyL root wd l := by
  have h := bodyL_app root wd (l.take k) (l.drop k)
  rw [List.take_append_drop] at h
  omega
def BodyAt (N : Nat) : Prop := ∀ (u : GUnit) (r : RUnit) (W : Int) (root : Bool) (w : World), SizeOf.sizeOf u ≤ N → Reads w u r → OkU u → Tabs w → AllU ValidP u → 24 ≤ W → W ≤ 200 → Calls Tryz.prog 14 #[.agg r.cells.toArray, .int .i64 W, .bool root] w (RetLines w W (bodyF root u))
set_option maxRecDepth 100000 in
set_option maxHeartbeats 6400000 in
theorem body_step (N : Nat) (ih : BodyAt N) : BodyAt (N + 1) := by
  intro u r W root w hN hr hok hT hv h1 h2
  obtain ⟨-, -, -, -, -, -, -, -, -, hkn, hkc, rs, hrs, hall, hrl⟩ := hr.flds
  have o4 := hok.all.head.2.2.2.1
  have hbnd := body_bound (root := root) hok hv
  have Hkd := Lib.hid (fun (k : Nat) (h : k < u.kids.length) (h2 : k < rs.length) wq (he : Ext w wq) => Reads.ext he _ _ (ReadsAll.get hall k h h2))
  have HkO := Lib.hid (fun (k : Nat) (h : k < u.kids.length) (h3 : k < rs.length) wq (he : Ext w wq) => own_any u.kids[k] rs[k] W wq (Reads.ext he _ _ (ReadsAll.get hall k h h3)) (hok.kid (List.getElem_mem h)) (hT.ext he) (hv.kids.mem _ (List.getElem_mem h)) (nests_kid (hv.head.2 _ (List.getElem_mem h))) h1 h2)
  have HkB := Lib.hid (fun (k : Nat) (h : k < u.kids.length) (h3 : k < rs.length) wq (he : Ext w wq) => ih u.kids[k] rs[k] W false wq (sizeKid hN h) (Reads.ext he _ _ (ReadsAll.get hall k h h3)) (hok.kid (List.getElem_mem h)) (hT.ext he) (hv.kids.mem _ (List.getElem_mem h)) h1 h2)
  have Hcal := Lib.hid (fun x rx wq (he : Ext w wq) (hx : Reads wq x rx) => called_any u x r rx wq (Reads.ext he u r hr) hx hok)
  have hb := BoxU.new r w
  have hx0 : Ext w (w.alloc (.cells r.cells.toArray 27)) := (Ext.refl w).alloc _
  have Hcw := Lib.hid (fun x => show calledF u x = calledW u.words x from rfl)
  rw [bodyF_eq] at hbnd ⊢
  obtain ⟨wd, hwd⟩ : ∃ wd, u.words = wd := ⟨_, rfl⟩
  rw [hwd] at hbnd Hcw ⊢
  obtain ⟨kids, hkk⟩ : ∃ kids, u.kids = kids := ⟨_, rfl⟩
  rw [hkk] at hrl o4 hbnd hkn hkc ⊢
  have HkO := Lib.hid (show ∀ (k : Nat) (h : k < kids.length) (h3 : k < rs.length) wq (he : Ext w wq), Calls Tryz.prog 34 #[.agg rs[k].cells.toArray, .int .i64 W] wq (RetLines wq W (ownN kids[k])) by subst hkk; exact HkO.out)
  have HkB := Lib.hid (show ∀ (k : Nat) (h : k < kids.length) (h3 : k < rs.length) wq (he : Ext w wq), Calls Tryz.prog 14 #[.agg rs[k].cells.toArray, .int .i64 W, .bool false] wq (RetLines wq W (bodyF false kids[k])) by subst hkk; exact HkB.out)
  have Hkd := Lib.hid (show ∀ (k : Nat) (h : k < kids.length) (h3 : k < rs.length) wq (he : Ext w wq), Reads wq kids[k] rs[k] by subst hkk; exact Hkd.out)
  have Hble := Lib.hid (fun k => Nat.le_trans (bodyL_le root wd kids k) hbnd)
  have Htk := Lib.hid (fun (k : Nat) (hk : k < kids.length) => bodyL_take (root := root) (wd := wd) hk)
  obtain ⟨ra, ri, rn, rk, rl, hdA, hn, hc, wA, wn, wc', kA, kn, kc⟩ := r
  dsimp only at hkn hkc hrs
  rw [← hrl] at hkn hkc o4
  subst hkn
  simp only [RUnit.cells] at hb hx0 Hcal ⊢
  obtain ⟨wb, hwb⟩ : ∃ wb, w.alloc (.cells #[.int .i64 ra, .int .i64 ri, .int .i64 rn, .int .i64 rk, .string rl, .slice hdA hn hc, .slice wA wn wc', .slice kA rs.length kc] 27) = wb := ⟨_, rfl⟩
  rw [hwb] at hb hx0
  have Hwb := Lib.hid hwb
  have Hbx := Lib.hid hb
  have Hx0 := Lib.hid hx0
  have Hkids := Lib.hid (hrs.ext hx0)
  have Hrl := Lib.hid hrl
  have c7 := hb.c7
  dsimp only at c7
  clear hwb hb hx0 hrs hall hkc hr hok hT hv hN ih hkk hwd hrl hbnd
  go_enter Tryz.func14, Tryz.ntmps14
  go_wp2
  go_loopw [7, 13] (fun vo vk wr => ∃ (k : Nat) (xs : List GLn), k ≤ rs.length ∧ vk = .int .i64 (k : Nat) ∧ Own lineEl wb.heap.size wr vo (xs.map Prod.fst) ∧ Hid (∀ x ∈ xs, NoteO wr x) ∧ Hid (∀ x ∈ xs, LnOk W x) ∧ Hid (wsum xs = bodyL root wd (kids.take k)) ∧ Ext wb wr) (fun _ vk _ => rs.length - (intOf vk).toNat)
  case atStart => exact ⟨0, [], Nat.zero_le _, rfl, Own.nil _, Lib.hid (by simp), Lib.hid (by simp), Lib.hid (by simp [wsum, bodyL]), by first | exact Ext.refl _ | (rw [Hwb.out]; exact Ext.refl _)⟩
  case round =>
    obtain ⟨k, xs, hk, rfl, hown, HNn, HLn, Hsum, hext⟩ := hrel
    obtain ⟨hb0, d0, d1, d2, d3, d4, d5, d6, d7⟩ := Hbx.out.ext hext
    dsimp only at d0 d1 d2 d3 d4 d5 d6 d7
    by_cases hlt : k < rs.length
    · have hltk : k < kids.length := by rw [← Hrl.out]; exact hlt
      obtain ⟨q, hq⟩ : ∃ q, rs[k] = q := ⟨_, rfl⟩
      obtain ⟨b, off, hAe, hbl, u0, u1, u2, u3, u4, u5, u6, u7⟩ := unitAtK (Hkids.out.ext hext) hlt hq
      subst hAe
      obtain ⟨kid, hkid⟩ : ∃ kid, kids[k] = kid := ⟨_, rfl⟩
      have hxa : Ext wr (wr.alloc (.cells #[.int .i64 q.a, .int .i64 q.i, .int .i64 q.n, .int .i64 q.kind, .string q.label, .slice q.hA q.hn q.hc, .slice q.wA q.wn q.wc, .slice q.kA q.kn q.kc] 27)) := (Ext.refl wr).alloc _
      have hbkn := heap_alloc_new wr (.cells #[.int .i64 q.a, .int .i64 q.i, .int .i64 q.n, .int .i64 q.kind, .string q.label, .slice q.hA q.hn q.hc, .slice q.wA q.wn q.wc, .slice q.kA q.kn q.kc] 27)
      have HO := Lib.hid (fun wq (he : Ext wb wq) => HkO.out k hltk hlt wq (Hx0.out.trans he))
      have HB := Lib.hid (fun wq (he : Ext wb wq) => HkB.out k hltk hlt wq (Hx0.out.trans he))
      have Hstep := Lib.hid (Htk.out k hltk)
      have Hb1 := Lib.hid (Hble.out (k + 1))
      have hkr : ∀ wq, Ext w wq → Reads wq kids[k] q := fun wq he => by
        rw [← hq]
        exact Hkd.out k hltk hlt _ he
      have Hc := Lib.hid (Hcal.out kids[k] q _ (Hx0.out.trans (hext.trans hxa)) (hkr _ (Hx0.out.trans (hext.trans hxa))))
      rw [hkid] at HO HB Hstep Hc
      rw [hq] at HO HB
      rw [Hstep.out, ← Hsum.out] at Hb1
      rw [Hcw.out kid] at Hc
      simp only [RUnit.cells] at HO HB Hc
      obtain ⟨X, hX⟩ : ∃ X, calledW wd kid = X := ⟨_, rfl⟩
      rw [hX] at Hstep Hb1 Hc
      have e1 : decide ((k : Int) < (rs.length : Int)) = true := decide_eq_true (by omega)
      have Hextc := Lib.hid (hext.trans hxa)
      have Hxa := Lib.hid hxa
      have Hbkn := Lib.hid hbkn
      obtain ⟨A7, c7', rfl, -, -⟩ := hown.form
      have Hvo0 := Lib.hid hown
      clear hq hkid hX hxa hbkn hext hown hkr
      cases root with
      | true =>
        have Hbd := Lib.hid (show wsum xs + ownN kid + bodyF false kid ≤ 602000 by have h9 := Hb1.out; rw [if_neg (by simp)] at h9; omega)
        have Hstep := Lib.hid (show bodyL true wd (kids.take (k + 1)) = bodyL true wd (kids.take k) + (ownN kid + bodyF false kid) by rw [Hstep.out, if_neg (by simp)])
        clear Hc
        go_wp2
        obtain ⟨wc, hwc⟩ : ∃ wc, wr.alloc (.cells #[.int .i64 q.a, .int .i64 q.i, .int .i64 q.n, .int .i64 q.kind, .string q.label, .slice q.hA q.hn q.hc, .slice q.wA q.wn q.wc, .slice q.kA q.kn q.kc] 27) = wc := ⟨_, rfl⟩
        rw [hwc] at Hextc Hxa Hbkn ⊢
        obtain ⟨bk, hbk⟩ : ∃ bk, wr.heap.size = bk := ⟨_, rfl⟩
        rw [hbk] at Hbkn ⊢
        have Hbk := Lib.hid (And.intro Hextc.out (fun wq (he : Ext wc wq) => (he.block (block_lt Hbkn.out)).trans Hbkn.out))
        have Hvo := Lib.hid (Hvo0.out.ext Hxa.out)
        have HNo := Lib.hid (fun x hx => (HNn.out x hx).ext Hxa.out)
        have Hown := HO
        have Hbody := HB
        obtain ⟨vo, hvo⟩ : ∃ vo, Value.slice A7 (List.map Prod.fst xs).length c7' = vo := ⟨_, rfl⟩
        rw [hvo] at Hvo ⊢
        clear hbk hvo
        refine wp_drawn_turnI (J := ⟨fun w => Ext wc w, fun _ _ h he => h.trans he⟩) (w0 := ⟨fun w => Ext wb w ∧ w.heap[bk]? = some (.cells #[.int .i64 q.a, .int .i64 q.i, .int .i64 q.n, .int .i64 q.kind, .string q.label, .slice q.hA q.hn q.hc, .slice q.wA q.wn q.wc, .slice q.kA q.kn q.kc] 27 (0, 0)) ∧ ∀ x ∈ xs, NoteO w x, fun _ _ h he => ⟨h.1.trans he, (he.block (block_lt h.2.1)).trans h.2.1, fun x hx => (h.2.2 x hx).ext he⟩⟩) (Ext.refl _) 8 4 [0, 1, 2, 3]
          (fun i => match i with | 0 => Ty.is vo | 1 => Ty.is (.agg #[.int .i64 q.a, .int .i64 q.i, .int .i64 q.n, .int .i64 q.kind, .string q.label, .slice q.hA q.hn q.hc, .slice q.wA q.wn q.wc, .slice q.kA q.kn q.kc]) | 2 => Ty.is (.int .i64 W) | 3 => TLines W (ownN kid) | 4 => TNo | 5 => Ty.is (.agg #[.int .i64 q.a, .int .i64 q.i, .int .i64 q.n, .int .i64 q.kind, .string q.label, .slice q.hA q.hn q.hc, .slice q.wA q.wn q.wc, .slice q.kA q.kn q.kc]) | 6 => Ty.is (.int .i64 W) | 7 => TNo | _ => Ty.any)
          (fun i => match i with | 4 => TMore wb.heap.size W xs (ownN kid) | 5 => Ty.is (.agg #[.int .i64 q.a, .int .i64 q.i, .int .i64 q.n, .int .i64 q.kind, .string q.label, .slice q.hA q.hn q.hc, .slice q.wA q.wn q.wc, .slice q.kA q.kn q.kc]) | 6 => Ty.is (.int .i64 W) | 7 => TLines W (bodyF false kid) | _ => Ty.any) (by kernel_rfl) (by kernel_rfl) (by kernel_rfl) (by kernel_rfl) (by decide) (by decide) (by kernel_rfl) ?_ ?_
        · intro j hj x w1 w2 hx
          match j, hj, hx with
          | 4, hj, _ => exact absurd rfl hj
          | 5, _, hx => exact hx
          | 6, _, hx => exact hx
          | 7, _, hx => exact hx.elim
          | 0, _, _ => trivial
          | 1, _, _ => trivial
          | 2, _, _ => trivial
          | 3, _, _ => trivial
          | _ + 8, _, _ => trivial
        intro v
        refine ⟨rfl, obt_early (by decide) rfl ?_, rfl, obt_early (by decide) rfl ?_, rfl, obt_early (by decide) rfl ?_, rfl, obt_early (by decide) rfl ?_, rfl, obt_turn rfl ?_, rfl, obt_free (by decide) ?_ ?_, rfl, obt_free (by decide) ?_ ?_, rfl, obt_free (by decide) ?_ ?_, ?_⟩
        · intro wq hq hd
          exact yld_move (.tmp 7) rfl rfl rfl
        · intro wq hq hd
          exact yld_loadAgg 27 (.tmp 9) rfl Tryz.isAgg27 8 Tryz.sizeOf27 [.int .i64 q.a, .int .i64 q.i, .int .i64 q.n, .int .i64 q.kind, .string q.label, .slice q.hA q.hn q.hc, .slice q.wA q.wn q.wc, .slice q.kA q.kn q.kc] rfl (boxT_of (Hbk.out.2 wq hq)) rfl
        · intro wq hq hd
          exact yld_move (.tmp 1) rfl rfl rfl
        · intro wq hq hd
          obtain ⟨h0, h1, -⟩ := hd
          change v 1 = _ at h0
          change v 2 = _ at h1
          refine yld_call 34 Tryz.call34 _ _ rfl rfl [_, _] ⟨h0, h1, trivial⟩ ?_
          refine (Hown.out wq (Hbk.out.1.trans hq)).mono ?_
          rintro e w' ⟨A, c, ys, rfl, g1, g2, g3, g4, g5, g6⟩
          exact ⟨_, rfl, g6, A, c, ys, rfl, g1, g2, g3, g4, g5⟩
        · intro wq hq hd
          have k0 : v 0 = vo := hd 0 rfl
          obtain ⟨A, c, ys, k3, g1, g2, g3, g4, g5⟩ := (show (TLines W (ownN kid)).p (v 3) wq from hd 3 rfl)
          have hl1 := wsum_len xs HLn.out
          have hl2 := wsum_len ys g4
          have ho := Hvo.out.ext hq
          have hbu := Hbk.out.2 wq hq
          refine yldWI_app (D := lineEl) (.tmp 25) (.tmp 28) rfl c wb.heap.size k0 ho (ys := ys.map Prod.fst) (by rw [List.length_map]; exact k3) g2 (by rw [List.length_map, List.length_map]; have := Hbd.out; omega) (Nat.le_trans Hbk.out.1.size hq.size) fun v' w' h3 h4 h5 => ?_
          refine ⟨⟨(Hbk.out.1.trans hq).trans' h4 (Nat.le_refl _), ?_, fun x hx => ?_⟩, ys, by rw [List.map_append]; exact h3, fun x hx => ?_, g4, g5⟩
          · exact (h5.block _ (block_lt hbu) (fun e => ho.ne hbu (by decide) _ e.symm rfl)).trans hbu
          · have hn := (HNo.out x hx).ext hq
            exact ⟨hn.1.other ho (by decide) h5, hn.2⟩
          · have hn := g3 x hx
            exact ⟨hn.1.other ho (by decide) h5, hn.2⟩
        · intro wq hq hd
          exact yld_loadAgg 27 (.tmp 9) rfl Tryz.isAgg27 8 Tryz.sizeOf27 [.int .i64 q.a, .int .i64 q.i, .int .i64 q.n, .int .i64 q.kind, .string q.label, .slice q.hA q.hn q.hc, .slice q.wA q.wn q.wc, .slice q.kA q.kn q.kc] rfl (boxT_of (Hbk.out.2 wq hq)) rfl
        · intro _ wq hq hd
          exact yld_loadAgg 27 (.tmp 9) rfl Tryz.isAgg27 8 Tryz.sizeOf27 [.int .i64 q.a, .int .i64 q.i, .int .i64 q.n, .int .i64 q.kind, .string q.label, .slice q.hA q.hn q.hc, .slice q.wA q.wn q.wc, .slice q.kA q.kn q.kc] rfl (boxT_of hq.2.1) rfl
        · intro wq hq hd
          exact yld_move (.tmp 1) rfl rfl rfl
        · intro _ wq hq hd
          exact yld_move (.tmp 1) rfl rfl rfl
        · intro wq hq hd
          obtain ⟨-, -, h4, -⟩ := hd
          exact (show False from h4).elim
        · intro _ wq hq hd
          obtain ⟨h0, h1, -⟩ := hd
          change v 5 = _ at h0
          change v 6 = _ at h1
          refine yld_call 14 Tryz.call14 _ _ rfl rfl [_, _, _] ⟨h0, h1, rfl, trivial⟩ ?_
          refine (Hbody.out wq hq.1).mono ?_
          rintro e w' ⟨A, c, ys, rfl, g1, g2, g3, g4, g5, g6⟩
          exact ⟨_, rfl, g6, A, c, ys, rfl, g1, g2, g3, g4, g5⟩
        · intro wq hq hd
          obtain ⟨ys, g1, g2, g3, g4⟩ := (show (TMore wb.heap.size W xs (ownN kid)).p (v 4) wq from hd 4 (by decide))
          obtain ⟨A, c, zs, k7, i1, i2, i3, i4, i5⟩ := (show (TLines W (bodyF false kid)).p (v 7) wq from hd 7 (by decide))
          have hl1 := wsum_len xs HLn.out
          have hl2 := wsum_len ys g3
          have hl3 := wsum_len zs i4
          have hbd := Hbd.out
          have hI1 := hq.1
          have hsz7 := hI1.size
          have HI2 := Lib.hid hq.2.2
          simp only [List.drop_succ_cons, List.drop_zero, putE, setsE, List.set_cons_succ, List.set_cons_zero, Nat.reduceAdd]
          rw [k7]
          generalize v 4 = v4 at g1 ⊢
          have hzl : (zs.map Prod.fst).length = zs.length := List.length_map _
          have Hg1 := Lib.hid g1
          have Hi2 := Lib.hid i2
          have hlen9 : ((xs ++ ys).map Prod.fst).length + (zs.map Prod.fst).length ≤ 68719476736 := by simp only [List.length_map, List.length_append]; omega
          obtain ⟨A4, c4, rfl, -, -⟩ := g1.form
          clear hd hq k7 g1 i2
          go_wp2_with (at_builtin; refine wpList_app lineEl rfl _ _ rfl c rfl Hg1.out (ys := zs.map Prod.fst) (by rw [hzl]; rfl) Hi2.out hlen9 hsz7 ?_; intro v9 w9 hown9 hext9 hg9; have HN1 := Lib.hid (fun x (hx : x ∈ xs) => (⟨(HI2.out x hx).1.other Hg1.out (by decide) hg9, (HI2.out x hx).2⟩ : NoteO w9 x)); have HN2 := Lib.hid (fun x (hx : x ∈ ys) => (⟨(g2 x hx).1.other Hg1.out (by decide) hg9, (g2 x hx).2⟩ : NoteO w9 x)); have HN3 := Lib.hid (fun x (hx : x ∈ zs) => (⟨(i3 x hx).1.other Hg1.out (by decide) hg9, (i3 x hx).2⟩ : NoteO w9 x)); clear hg9)
          go_roundw
          case rel =>
            refine ⟨k + 1, xs ++ ys ++ zs, by omega, by go_num, by rw [List.map_append]; exact hown9, Lib.hid (fun x hx => ?_), Lib.hid (fun x hx => ?_), Lib.hid ?_, hI1.trans' hext9⟩
            · rcases List.mem_append.1 hx with hx | hx
              · rcases List.mem_append.1 hx with hx | hx
                · exact HN1.out x hx
                · exact HN2.out x hx
              · exact HN3.out x hx
            · rcases List.mem_append.1 hx with hx | hx
              · rcases List.mem_append.1 hx with hx | hx
                · exact HLn.out x hx
                · exact g3 x hx
              · exact i4 x hx
            · rw [wsum_append, wsum_append, Hsum.out, Hstep.out, g4, i5]
              omega
          case measure => simp [intOf]; omega
      | false =>
        have Hvo0 := Lib.hid (show Own lineEl wb.heap.size wr (.slice A7 xs.length c7') (xs.map Prod.fst) by have := Hvo0.out; rwa [List.length_map] at this)
        go_wp2_with fail
        refine (Hc.out).mono ?_
        rintro e w2 ⟨rfl, hx2⟩
        by_cases hX0 : 0 ≤ X
        · have e2 : decide (0 ≤ X) = true := decide_eq_true hX0
          have e3 : decide (X ≥ 0) = true := decide_eq_true hX0
          have Hx2 := Lib.hid (Hxa.out.trans hx2)
          have Hextc2 := Lib.hid (Hextc.out.trans hx2)
          clear hx2 u0 u1 u2 u3 u4 u5 u6 u7 d0 d1 d2 d3 d4 d5 d6 d7
          go_wp2
          go_roundw
          case rel =>
            refine ⟨k + 1, xs, by omega, by go_num, ?_, Lib.hid (fun x hx => (HNn.out x hx).ext Hx2.out), HLn, Lib.hid ?_, Hextc2.out⟩
            · have := Hvo0.out.ext Hx2.out
              exact this
            · rw [Hsum.out, Hstep.out, if_pos (by simp [hX0])]
              rfl
          case measure => simp [intOf]; omega
        · have e2 : decide (0 ≤ X) = false := decide_eq_false hX0
          have e3 : decide (X ≥ 0) = false := decide_eq_false hX0
          have Hbd := Lib.hid (show wsum xs + ownN kid + bodyF false kid ≤ 602000 by have h9 := Hb1.out; rw [if_neg (fun h => hX0 h.2)] at h9; omega)
          have Hstep := Lib.hid (show bodyL false wd (kids.take (k + 1)) = bodyL false wd (kids.take k) + (ownN kid + bodyF false kid) by rw [Hstep.out, if_neg (fun h => hX0 h.2)])
          have Hbkn := Lib.hid ((hx2.block (block_lt Hbkn.out)).trans Hbkn.out)
          have Hextc := Lib.hid (Hextc.out.trans hx2)
          have Hxa := Lib.hid (Hxa.out.trans hx2)
          clear hx2 u0 u1 u2 u3 u4 u5 u6 u7 d0 d1 d2 d3 d4 d5 d6 d7 Hc
          go_wp2
          obtain ⟨wc, hwc⟩ : ∃ wc, w2 = wc := ⟨_, rfl⟩
          subst hwc
          obtain ⟨bk, hbk⟩ : ∃ bk, wr.heap.size = bk := ⟨_, rfl⟩
          rw [hbk] at Hbkn ⊢
          have Hbk := Lib.hid (And.intro Hextc.out (fun wq (he : Ext w2 wq) => (he.block (block_lt Hbkn.out)).trans Hbkn.out))
          have Hvo := Lib.hid (Hvo0.out.ext Hxa.out)
          have HNo := Lib.hid (fun x hx => (HNn.out x hx).ext Hxa.out)
          have Hown := HO
          have Hbody := HB
          obtain ⟨vo, hvo⟩ : ∃ vo, Value.slice A7 xs.length c7' = vo := ⟨_, rfl⟩
          rw [hvo] at Hvo ⊢
          clear hbk hvo
          refine wp_drawn_turnI (J := ⟨fun w => Ext w2 w, fun _ _ h he => h.trans he⟩) (w0 := ⟨fun w => Ext wb w ∧ w.heap[bk]? = some (.cells #[.int .i64 q.a, .int .i64 q.i, .int .i64 q.n, .int .i64 q.kind, .string q.label, .slice q.hA q.hn q.hc, .slice q.wA q.wn q.wc, .slice q.kA q.kn q.kc] 27 (0, 0)) ∧ ∀ x ∈ xs, NoteO w x, fun _ _ h he => ⟨h.1.trans he, (he.block (block_lt h.2.1)).trans h.2.1, fun x hx => (h.2.2 x hx).ext he⟩⟩) (Ext.refl _) 8 4 [0, 1, 2, 3]
            (fun i => match i with | 0 => Ty.is vo | 1 => Ty.is (.agg #[.int .i64 q.a, .int .i64 q.i, .int .i64 q.n, .int .i64 q.kind, .string q.label, .slice q.hA q.hn q.hc, .slice q.wA q.wn q.wc, .slice q.kA q.kn q.kc]) | 2 => Ty.is (.int .i64 W) | 3 => TLines W (ownN kid) | 4 => TNo | 5 => Ty.is (.agg #[.int .i64 q.a, .int .i64 q.i, .int .i64 q.n, .int .i64 q.kind, .string q.label, .slice q.hA q.hn q.hc, .slice q.wA q.wn q.wc, .slice q.kA q.kn q.kc]) | 6 => Ty.is (.int .i64 W) | 7 => TNo | _ => Ty.any)
            (fun i => match i with | 4 => TMore wb.heap.size W xs (ownN kid) | 5 => Ty.is (.agg #[.int .i64 q.a, .int .i64 q.i, .int .i64 q.n, .int .i64 q.kind, .string q.label, .slice q.hA q.hn q.hc, .slice q.wA q.wn q.wc, .slice q.kA q.kn q.kc]) | 6 => Ty.is (.int .i64 W) | 7 => TLines W (bodyF false kid) | _ => Ty.any) (by kernel_rfl) (by kernel_rfl) (by kernel_rfl) (by kernel_rfl) (by decide) (by decide) (by kernel_rfl) ?_ ?_
          · intro j hj x w1 w2 hx
            match j, hj, hx with
            | 4, hj, _ => exact absurd rfl hj
            | 5, _, hx => exact hx
            | 6, _, hx => exact hx
            | 7, _, hx => exact hx.elim
            | 0, _, _ => trivial
            | 1, _, _ => trivial
            | 2, _, _ => trivial
            | 3, _, _ => trivial
            | _ + 8, _, _ => trivial
          intro v
          refine ⟨rfl, obt_early (by decide) rfl ?_, rfl, obt_early (by decide) rfl ?_, rfl, obt_early (by decide) rfl ?_, rfl, obt_early (by decide) rfl ?_, rfl, obt_turn rfl ?_, rfl, obt_free (by decide) ?_ ?_, rfl, obt_free (by decide) ?_ ?_, rfl, obt_free (by decide) ?_ ?_, ?_⟩
          · intro wq hq hd
            exact yld_move (.tmp 7) rfl rfl rfl
          · intro wq hq hd
            exact yld_loadAgg 27 (.tmp 9) rfl Tryz.isAgg27 8 Tryz.sizeOf27 [.int .i64 q.a, .int .i64 q.i, .int .i64 q.n, .int .i64 q.kind, .string q.label, .slice q.hA q.hn q.hc, .slice q.wA q.wn q.wc, .slice q.kA q.kn q.kc] rfl (boxT_of (Hbk.out.2 wq hq)) rfl
          · intro wq hq hd
            exact yld_move (.tmp 1) rfl rfl rfl
          · intro wq hq hd
            obtain ⟨h0, h1, -⟩ := hd
            change v 1 = _ at h0
            change v 2 = _ at h1
            refine yld_call 34 Tryz.call34 _ _ rfl rfl [_, _] ⟨h0, h1, trivial⟩ ?_
            refine (Hown.out wq (Hbk.out.1.trans hq)).mono ?_
            rintro e w' ⟨A, c, ys, rfl, g1, g2, g3, g4, g5, g6⟩
            exact ⟨_, rfl, g6, A, c, ys, rfl, g1, g2, g3, g4, g5⟩
          · intro wq hq hd
            have k0 : v 0 = vo := hd 0 rfl
            obtain ⟨A, c, ys, k3, g1, g2, g3, g4, g5⟩ := (show (TLines W (ownN kid)).p (v 3) wq from hd 3 rfl)
            have hl1 := wsum_len xs HLn.out
            have hl2 := wsum_len ys g4
            have ho := Hvo.out.ext hq
            have hbu := Hbk.out.2 wq hq
            refine yldWI_app (D := lineEl) (.tmp 25) (.tmp 28) rfl c wb.heap.size k0 ho (ys := ys.map Prod.fst) (by rw [List.length_map]; exact k3) g2 (by rw [List.length_map, List.length_map]; have := Hbd.out; omega) (Nat.le_trans Hbk.out.1.size hq.size) fun v' w' h3 h4 h5 => ?_
            refine ⟨⟨(Hbk.out.1.trans hq).trans' h4 (Nat.le_refl _), ?_, fun x hx => ?_⟩, ys, by rw [List.map_append]; exact h3, fun x hx => ?_, g4, g5⟩
            · exact (h5.block _ (block_lt hbu) (fun e => ho.ne hbu (by decide) _ e.symm rfl)).trans hbu
            · have hn := (HNo.out x hx).ext hq
              exact ⟨hn.1.other ho (by decide) h5, hn.2⟩
            · have hn := g3 x hx
              exact ⟨hn.1.other ho (by decide) h5, hn.2⟩
          · intro wq hq hd
            exact yld_loadAgg 27 (.tmp 9) rfl Tryz.isAgg27 8 Tryz.sizeOf27 [.int .i64 q.a, .int .i64 q.i, .int .i64 q.n, .int .i64 q.kind, .string q.label, .slice q.hA q.hn q.hc, .slice q.wA q.wn q.wc, .slice q.kA q.kn q.kc] rfl (boxT_of (Hbk.out.2 wq hq)) rfl
          · intro _ wq hq hd
            exact yld_loadAgg 27 (.tmp 9) rfl Tryz.isAgg27 8 Tryz.sizeOf27 [.int .i64 q.a, .int .i64 q.i, .int .i64 q.n, .int .i64 q.kind, .string q.label, .slice q.hA q.hn q.hc, .slice q.wA q.wn q.wc, .slice q.kA q.kn q.kc] rfl (boxT_of hq.2.1) rfl
          · intro wq hq hd
            exact yld_move (.tmp 1) rfl rfl rfl
          · intro _ wq hq hd
            exact yld_move (.tmp 1) rfl rfl rfl
          · intro wq hq hd
            obtain ⟨-, -, h4, -⟩ := hd
            exact (show False from h4).elim
          · intro _ wq hq hd
            obtain ⟨h0, h1, -⟩ := hd
            change v 5 = _ at h0
            change v 6 = _ at h1
            refine yld_call 14 Tryz.call14 _ _ rfl rfl [_, _, _] ⟨h0, h1, rfl, trivial⟩ ?_
            refine (Hbody.out wq hq.1).mono ?_
            rintro e w' ⟨A, c, ys, rfl, g1, g2, g3, g4, g5, g6⟩
            exact ⟨_, rfl, g6, A, c, ys, rfl, g1, g2, g3, g4, g5⟩
          · intro wq hq hd
            obtain ⟨ys, g1, g2, g3, g4⟩ := (show (TMore wb.heap.size W xs (ownN kid)).p (v 4) wq from hd 4 (by decide))
            obtain ⟨A, c, zs, k7, i1, i2, i3, i4, i5⟩ := (show (TLines W (bodyF false kid)).p (v 7) wq from hd 7 (by decide))
            have hl1 := wsum_len xs HLn.out
            have hl2 := wsum_len ys g3
            have hl3 := wsum_len zs i4
            have hbd := Hbd.out
            have hI1 := hq.1
            have hsz7 := hI1.size
            have HI2 := Lib.hid hq.2.2
            simp only [List.drop_succ_cons, List.drop_zero, putE, setsE, List.set_cons_succ, List.set_cons_zero, Nat.reduceAdd]
            rw [k7]
            generalize v 4 = v4 at g1 ⊢
            have hzl : (zs.map Prod.fst).length = zs.length := List.length_map _
            have Hg1 := Lib.hid g1
            have Hi2 := Lib.hid i2
            have hlen9 : ((xs ++ ys).map Prod.fst).length + (zs.map Prod.fst).length ≤ 68719476736 := by simp only [List.length_map, List.length_append]; omega
            obtain ⟨A4, c4, rfl, -, -⟩ := g1.form
            clear hd hq k7 g1 i2
            go_wp2_with (at_builtin; refine wpList_app lineEl rfl _ _ rfl c rfl Hg1.out (ys := zs.map Prod.fst) (by rw [hzl]; rfl) Hi2.out hlen9 hsz7 ?_; intro v9 w9 hown9 hext9 hg9; have HN1 := Lib.hid (fun x (hx : x ∈ xs) => (⟨(HI2.out x hx).1.other Hg1.out (by decide) hg9, (HI2.out x hx).2⟩ : NoteO w9 x)); have HN2 := Lib.hid (fun x (hx : x ∈ ys) => (⟨(g2 x hx).1.other Hg1.out (by decide) hg9, (g2 x hx).2⟩ : NoteO w9 x)); have HN3 := Lib.hid (fun x (hx : x ∈ zs) => (⟨(i3 x hx).1.other Hg1.out (by decide) hg9, (i3 x hx).2⟩ : NoteO w9 x)); clear hg9)
            go_roundw
            case rel =>
              refine ⟨k + 1, xs ++ ys ++ zs, by omega, by go_num, by rw [List.map_append]; exact hown9, Lib.hid (fun x hx => ?_), Lib.hid (fun x hx => ?_), Lib.hid ?_, hI1.trans' hext9⟩
              · rcases List.mem_append.1 hx with hx | hx
                · rcases List.mem_append.1 hx with hx | hx
                  · exact HN1.out x hx
                  · exact HN2.out x hx
                · exact HN3.out x hx
              · rcases List.mem_append.1 hx with hx | hx
                · rcases List.mem_append.1 hx with hx | hx
                  · exact HLn.out x hx
                  · exact g3 x hx
                · exact i4 x hx
              · rw [wsum_append, wsum_append, Hsum.out, Hstep.out, g4, i5]
                omega
            case measure => simp [intOf]; omega
    · have e1 : decide ((k : Int) < (rs.length : Int)) = false := decide_eq_false (by omega)
      obtain rfl : k = rs.length := by omega
      have Hfin := Lib.hid (show wsum xs = bodyL root wd kids by rw [Hsum.out, Hrl.out, List.take_length])
      obtain ⟨A7, c7', rfl, hcc, hs⟩ := hown.form
      have Hs := Lib.hid hs
      have Hext := Lib.hid hext
      clear hown hs hext Hsum
      go_wp2
      go_ret
      exact ⟨A7, c7', xs, by simp, by simpa using hcc, Hs.out, HNn.out, HLn.out, Hfin.out, Hx0.out.trans Hext.out⟩
theorem body_any : ∀ N, BodyAt N
  | 0 => fun _ _ _ _ _ h => (size0 h).elim
  | N + 1 => body_step N (body_any N)
end Go.Proofs.YtjhdamjbljafhaaGreatDoor
