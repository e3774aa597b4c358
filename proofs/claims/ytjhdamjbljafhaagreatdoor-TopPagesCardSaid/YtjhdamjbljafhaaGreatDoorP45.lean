/- paginate.groups: its function hands on pieces of the row, one behind the other. Regions in a round of a range over a function: what is shown of them as anywhere serves there. What Paginate keeps between two groups of lines: its pages, the lines of the page under way. -/
import Derived.Test.YtjhdamjbljafhaaGreatDoorP43
import Derived.RangeFuncNested
import Derived.RangeFuncBound
import Derived.RangeFuncCalls
import Derived.RangeFuncLeaves
import Derived.RangeFuncWrites
import Derived.Shelf.Abstract
import Derived.Shelf.RegionOpen
import Derived.WalkKit
import Derived.OwnWalkIn
import Derived.TacticsInMore
import Derived.LoopNIn
import Derived.LoopIn
import Derived.Test.YtjhdamjbljafhaaGreatDoorP10
import Derived.OrdersIn
import Derived.Test.YtjhdamjbljafhaaGreatDoorP44
namespace Go.Proofs.YtjhdamjbljafhaaGreatDoor
open Go.RowKit
def pieceV (A : Option Addr) (c a b : Nat) : Value := .slice (if c = a then A else A.map (·.add (a * 6))) (b - a) (c - a)
theorem piece_run (A : Option Addr) (c n a b : Nat) (h1 : a ≤ b) (h2 : b ≤ n) (h3 : n ≤ c) (W : World) : (Instr.sliceAt 47 (.slice A n c) (some (.int .i64 (a : Int))) (some (.int .i64 (b : Int))) none).run Tryz.prog W = .ok (pieceV A c a b) W :=
  run_slice_any lineEl (w := W) (A := A) (c := c) n a b c (some (.int .i64 a)) (some (.int .i64 b)) none rfl rfl rfl h1 (by omega) (Nat.le_refl _) h3
theorem piece_from (A : Option Addr) (c n a : Nat) (h1 : a ≤ n) (h3 : n ≤ c) (W : World) : (Instr.sliceAt 47 (.slice A n c) (some (.int .i64 (a : Int))) none none).run Tryz.prog W = .ok (pieceV A c a n) W :=
  run_slice_any lineEl (w := W) (A := A) (c := c) n a n c (some (.int .i64 a)) none none rfl rfl rfl h1 h3 (Nat.le_refl _) h3
theorem piece_sl {A : Option Addr} {c a b : Nat} {xs : List RLine} {w : World} (h : Sl lineEl w A xs) (h1 : a ≤ b) (h2 : b ≤ xs.length) (h3 : xs.length ≤ c) : ∃ A', pieceV A c a b = .slice A' ((xs.drop a).take (b - a)).length (c - a) ∧ Sl lineEl w A' ((xs.drop a).take (b - a)) :=
  ⟨_, by unfold pieceV; rw [List.length_take, List.length_drop, Nat.min_eq_left (by omega)]; rfl, Sl.cut lineEl h a b h1 h2 h3⟩
def Chain (n : Nat) : Nat → List (Nat × Nat) → Nat → Prop
  | a, [], b => a = b
  | a, p :: ps, b => p.1 = a ∧ a ≤ p.2 ∧ p.2 ≤ n ∧ Chain n p.2 ps b
theorem Chain.snoc {n : Nat} : ∀ {ps : List (Nat × Nat)} {a b d : Nat}, Chain n a ps b → b ≤ d → d ≤ n → Chain n a (ps ++ [(b, d)]) d
  | [], a, b, d, h, h1, h2 => by
    have h : a = b := h
    subst h
    exact ⟨rfl, h1, h2, rfl⟩
  | p :: ps, a, b, d, h, h1, h2 => ⟨h.1, h.2.1, h.2.2.1, h.2.2.2.snoc h1 h2⟩
abbrev Pc (n : Nat) := { p : Nat × Nat // p.1 ≤ p.2 ∧ p.2 ≤ n }
def GIn (Bx : Nat) (A : Option Addr) (c : Nat) (rs : List RLine) (W : World) : Prop := Bx < W.heap.size ∧ W.cell? ⟨Bx, 0, none⟩ = some (.slice A rs.length c) ∧ Sl lineEl W A rs
theorem GIn.ext {Bx : Nat} {A : Option Addr} {c : Nat} {rs : List RLine} {W W' : World} (h : GIn Bx A c rs W) (he : Ext W W') : GIn Bx A c rs W' := ⟨Nat.lt_of_lt_of_le h.1 he.size, (he.cell (p := ⟨Bx, 0, none⟩) h.1).trans h.2.1, h.2.2.ext he⟩
set_option maxRecDepth 100000 in
set_option maxHeartbeats 3200000 in
theorem groups_stops (n Bx : Nat) (A : Option Addr) (c : Nat) (rs : List RLine) (w : World) (hn : 1 ≤ n) (hG : GIn Bx A c rs w) (hc : rs.length ≤ c) (hl : rs.length ≤ 1000000) (Kp : World → World → Prop) (hK : ∀ W W', GIn Bx A c rs W → Kp W W' → GIn Bx A c rs W') :
    SeqStopsK Fence.wide n Tryz.prog 32 #[.pointer (some ⟨Bx, 0, none⟩)] (fun p : Pc rs.length => #[pieceV A c p.1.1 p.1.2]) Kp (fun xs => Chain rs.length 0 (xs.map Subtype.val) rs.length) (fun _ => True) (rs.length + 1) w := by
  intro l J Jx W hW hJ hJx hY h0
  have hG0 := hG.ext (W' := W) hW
  refine callsIn_of_wp Tryz.func32 rfl trivial ?_ rfl
  have hp1 := fun a b (h1 : a ≤ b) (h2 : b ≤ rs.length) W => piece_run A c rs.length a b h1 h2 hc W
  have hp2 := fun a (h1 : a ≤ rs.length) W => piece_from A c rs.length a h1 hc W
  obtain ⟨hG1, hG2, hG3⟩ := hG0
  have HY := Lib.hid hY
  have HJ := Lib.hid hJ
  have HK := Lib.hid hK
  have Hp1 := Lib.hid hp1
  have Hp2 := Lib.hid hp2
  have HG0 := Lib.hid (show GIn Bx A c rs W from ⟨hG1, hG2, hG3⟩)
  have H0 := Lib.hid h0
  clear hY hJ hJx hK hp1 hp2 hG hG3 h0 hW
  simp only [Tryz.ntmps32, List.size_toArray, List.length_cons, List.length_nil, Nat.reduceAdd, Nat.reduceSub, Array.replicate_succ, Array.replicate_zero, List.push_toArray, List.append_toArray, List.nil_append, List.cons_append]
  gi_wp2
  gi_loopw [3, 8] (fun va vk wr => ∃ (k a : Nat) (pre : List (Pc rs.length)), k ≤ rs.length ∧ vk = .int .i64 (k : Nat) ∧ va = .int .i64 (a : Nat) ∧ a ≤ k ∧ Hid (Chain rs.length 0 (pre.map Subtype.val) a) ∧ Hid (pre.length ≤ k) ∧ Hid (J pre wr) ∧ Hid (GIn Bx A c rs wr)) (fun _ vk _ => rs.length - (intOf vk).toNat)
  case atStart => exact ⟨0, 0, [], Nat.zero_le _, rfl, rfl, Nat.le_refl _, Lib.hid rfl, Lib.hid (Nat.zero_le _), H0, HG0⟩
  case round =>
    clear H0 HG0 hG1 hG2
    obtain ⟨k, a, pre, hk, rfl, rfl, hak, HCh, HPl, HJw, HGw⟩ := hrel
    by_cases hlt : k < rs.length
    · obtain ⟨q, hq⟩ : ∃ q, rs[k] = q := ⟨_, rfl⟩
      obtain ⟨b, off, hAe, hb, u0, u1, u2, u3, u4, u5⟩ := lineAt HGw.out.2.2 hlt
      rw [hq] at u0 u1 u2 u3 u4 u5
      have hg2 := HGw.out.2.1
      have hg1 := HGw.out.1
      have e1 : decide ((k : Int) < (rs.length : Int)) = true := decide_eq_true (by omega)
      have HJa := Lib.hid (HJ.out pre wr (wr.alloc (.cells #[.string q.t, .int .i64 q.a, .int .i64 q.i, .int .i64 q.n, .bool q.h, .slice q.nA q.nn q.nc] 54)) none HJw.out (World.grownBy_alloc _ _ none) (fun r e => by cases e))
      have hxa : Ext wr (wr.alloc (.cells #[.string q.t, .int .i64 q.a, .int .i64 q.i, .int .i64 q.n, .bool q.h, .slice q.nA q.nn q.nc] 54)) := (Ext.refl wr).alloc _
      have HGa := Lib.hid (HGw.out.ext hxa)
      clear hxa hq
      subst hAe
      cases hh : q.h with
      | true =>
        rw [hh] at HJa HGa u4
        gi_wp2
        go_roundw
        case rel => exact ⟨k + 1, a, pre, by omega, by go_num, rfl, by omega, HCh, Lib.hid (Nat.le_succ_of_le HPl.out), HJa, HGa⟩
        case measure => simp [intOf]; omega
      | false =>
        rw [hh] at HJa HGa u4
        have hp := Hp1.out a (k + 1) (by omega) (by omega)
        have hcast : ((k + 1 : Nat) : Int) = (k : Int) + 1 := by omega
        rw [hcast] at hp
        obtain ⟨fn, tmps, assign, body, hy, hR⟩ := HY.out pre ⟨(a, k + 1), by omega, by omega⟩ _ HJa.out (by have := HPl.out; omega)
        dsimp only at hy
        have Hstep := Lib.hid (HCh.out.snoc (show a ≤ k + 1 by omega) (show k + 1 ≤ rs.length by omega))
        obtain ⟨pv, hpv⟩ : ∃ pv, pieceV (some ⟨b, off, none⟩) c a (k + 1) = pv := ⟨_, rfl⟩
        rw [hpv] at hp hy
        have HR := Lib.hid hR
        clear hR hpv
        gi_wp2
        refine (HR.out).mono ?_
        rintro e W' (⟨rfl, hJ', hk'⟩ | ⟨rfl, hJx'⟩)
        · have HJ' := Lib.hid hJ'
          have HG' := Lib.hid (HK.out _ _ HGa.out hk')
          clear hk' hJ'
          gi_wp2
          go_roundw
          case rel => exact ⟨k + 1, k + 1, pre ++ [⟨(a, k + 1), by omega, by omega⟩], by omega, by go_num, by go_num, Nat.le_refl _, Lib.hid (by rw [List.map_append]; exact Hstep.out), Lib.hid (by have := HPl.out; simp; omega), HJ', HG'⟩
          case measure => simp [intOf]; omega
        · have HJx' := Lib.hid hJx'
          clear hJx'
          gi_wp2
          refine bodyPost_ret (results_none rfl _ _ _) rfl ?_
          exact ⟨⟨_, rfl⟩, .inr ⟨_, trivial, HJx'.out⟩⟩
    · have e1 : decide ((k : Int) < (rs.length : Int)) = false := decide_eq_false (by omega)
      have hg2 := HGw.out.2.1
      have hg1 := HGw.out.1
      by_cases hlast : a < rs.length
      · have e2 : decide ((a : Int) < (rs.length : Int)) = true := decide_eq_true (by omega)
        have hp := Hp2.out a (by omega)
        obtain ⟨fn, tmps, assign, body, hy, hR⟩ := HY.out pre ⟨(a, rs.length), by omega, by omega⟩ _ HJw.out (by have := HPl.out; omega)
        dsimp only at hy
        have Hstep := Lib.hid (HCh.out.snoc (show a ≤ rs.length by omega) (Nat.le_refl _))
        obtain ⟨pv, hpv⟩ : ∃ pv, pieceV A c a rs.length = pv := ⟨_, rfl⟩
        rw [hpv] at hp hy
        have HR := Lib.hid hR
        clear hR hpv
        gi_wp2
        refine (HR.out).mono ?_
        rintro e W' (⟨rfl, hJ', hk'⟩ | ⟨rfl, hJx'⟩)
        · have HJ' := Lib.hid hJ'
          clear hk' hJ'
          gi_wp2
          refine bodyPost_end (results_none rfl _ _ _) rfl ?_
          exact ⟨⟨_, rfl⟩, .inl ⟨pre ++ [⟨(a, rs.length), by omega, by omega⟩], by rw [List.map_append]; exact Hstep.out, HJ'.out⟩⟩
        · have HJx' := Lib.hid hJx'
          clear hJx'
          gi_wp2
          refine bodyPost_end (results_none rfl _ _ _) rfl ?_
          exact ⟨⟨_, rfl⟩, .inr ⟨_, trivial, HJx'.out⟩⟩
      · have e2 : decide ((a : Int) < (rs.length : Int)) = false := decide_eq_false (by omega)
        have Hal := Lib.hid (show a = rs.length by omega)
        gi_wp2
        refine bodyPost_end (results_none rfl _ _ _) rfl ?_
        exact ⟨⟨_, rfl⟩, .inl ⟨pre, by have := HCh.out; rw [Hal.out] at this; exact this, HJw.out⟩⟩
end Go.Proofs.YtjhdamjbljafhaaGreatDoor
namespace Go.Proofs.YtjhdamjbljafhaaGreatDoor
open Go.RowKit
def notDefer (o : Oper) : Bool := match o.op with | .defer _ => false | _ => true
theorem notDefer_spec {o : Oper} (h : notDefer o = true) : ∀ c, o.op ≠ .defer c := fun c e => by
  unfold notDefer at h
  rw [e] at h
  cases h
section
variable {P : Program} {l n : Nat} {Q : Exit → Act → World → Prop}
theorem Oper.wp_in {o : Oper} {a : Act} {w : World} {K K' : Act → World → Prop} (hd : notDefer o = true) (hK : ∀ a w, K a w → K' a w) (h : o.wp P a w K Q) : o.wpIn (Fence.wide.inRound l) n P a w K' Q := by
  unfold Oper.wpIn
  refine ⟨fun _ _ => trivial, ?_⟩
  rw [show (Fence.wide.inRound l).round = some l from rfl, Oper.semAt_some l _ _ (notDefer_spec hd)]
  have h := Oper.wp_mono hK h
  unfold Oper.wp at h
  generalize (execOp a.eval o).run P w = r at h ⊢
  cases r with
  | ok x w' =>
    cases x <;> first
      | exact ⟨fun h => (by cases h), CallsIn.inRound l (callsIn_wide.2 h)⟩
      | exact ⟨fun h => (by cases h), fun c cs _ => (let ⟨v, w'', r, s⟩ := h c cs; ⟨v, w'', r, stepsIn_wide.2 s⟩)⟩
      | exact h
      | exact h.elim
  | halt x w' => cases x <;> first | exact h | exact h.elim
theorem wpOp_in {ops : Array Oper} {i : Nat} {K K' : Act → World → Prop} {a : Act} {w : World} (hd : ∀ o, ops[i]? = some o → notDefer o = true) (hL : ¬ LetsOut Q) (hK : ∀ a w, K a w → K' a w) (h : wpOp P ops Q i K a w) : wpOpIn (Fence.wide.inRound l) n P ops Q i K' a w := by
  unfold wpOp at h
  unfold wpOpIn
  cases ho : ops[i]? with
  | none => rw [ho] at h; exact hK _ _ h
  | some o =>
    rw [ho] at h
    simp only at h ⊢
    split at h
    · rename_i hw
      rw [if_pos hw]
      rcases h with h | h
      · exact Oper.wp_in (hd o ho) hK h
      · exact absurd h.2 hL
    · rename_i hw
      rw [if_neg hw]
      exact ⟨fun _ _ => trivial, hK _ _ h⟩
theorem wpAny_in {ops : Array Oper} (hd : ∀ (i : Nat) (o : Oper), ops[i]? = some o → notDefer o = true) (hL : ¬ LetsOut Q) : ∀ (fuel : Nat) (listed : Array Bool) (a : Act) (w : World), wpAny P .any ops Q fuel listed a w → wpAnyIn (Fence.wide.inRound l) n P .any ops Q fuel listed a w
  | 0, listed, a, w, h => h
  | fuel + 1, listed, a, w, h => ⟨h.1, fun i hi => wpOp_in (hd i) hL (fun a w h => wpAny_in hd hL fuel _ a w h) (h.2 i hi)⟩
theorem wpOps_in {ops : Array Oper} (hd : ∀ (i : Nat) (o : Oper), ops[i]? = some o → notDefer o = true) (hL : ¬ LetsOut Q) : ∀ (is : List Nat) (a : Act) (w : World), wpOps P ops Q is a w → wpOpsIn (Fence.wide.inRound l) n P ops Q is a w
  | [], a, w, h => h
  | i :: is, a, w, h => by
    rw [wpOps_cons] at h
    rw [wpOpsIn_cons]
    exact wpOp_in (hd i) hL (fun a w h => wpOps_in hd hL is a w h) h
def Qn (R : Act → World → Prop) : Exit → Act → World → Prop
  | .normal, a, w => R a w
  | _, _, _ => False
theorem Qn_lets {R : Act → World → Prop} : ¬ LetsOut (Qn R) := fun ⟨_, _, h⟩ => h
theorem Qn_le : ∀ (e : Exit) (a : Act) (w : World), Qn (Q .normal) e a w → Q e a w := fun e a w h => by cases e <;> first | exact h | exact h.elim
def noDefers (ops : List Oper) : Bool := ops.all notDefer
theorem noDefers_spec {ops : List Oper} (h : noDefers ops = true) : ∀ (i : Nat) o, ops.toArray[i]? = some o → notDefer o = true := fun i o ho => List.all_eq_true.1 h o (by rw [List.getElem?_toArray] at ho; exact List.mem_of_getElem? ho)
theorem wpIn_text {id : Nat} {ops : List Oper} {a : Act} {w : World} (hd : noDefers ops = true) (h : wpList P ops.toArray (Qn (Q .normal)) ops a w) : (Code.region id ops.toArray false).wpIn (Fence.wide.inRound l) n P Q a w := by
  have e := wpOps_eq_wpList (P := P) (Q := Qn (Q .normal)) (ops := ops.toArray) ops 0 (fun j => by rw [List.getElem?_toArray]; congr 1; omega)
  refine wpIn_mono (wpIn_region (Q := Qn (Q .normal)) (wpOps_in (noDefers_spec hd) Qn_lets _ _ _ ?_)) Qn_le
  rw [List.size_toArray, List.range_eq_range', e]
  exact h
theorem wpIn_any {id : Nat} {ops : List Oper} {a : Act} {w : World} (hm : P.follows .mixedOrders = true) (hd : noDefers ops = true) (h : wpAny P .any ops.toArray (Qn (Q .normal)) ops.toArray.size (Array.replicate ops.toArray.size false) a { w with drawn := w.drawn + 1 }) : (Code.region id ops.toArray true).wpIn (Fence.wide.inRound l) n P Q a w :=
  wpIn_mono (wpIn_region_any hm (wpAny_in (noDefers_spec hd) Qn_lets _ _ _ _ h)) Qn_le
end
section
variable {P : Program} {l1 l2 : List Oper} {w0 : World} {a0 : Act} {Q : Exit → Act → World → Prop} {lp m : Nat}
theorem wpIn_typed_tailV {id : Nat} (hm : P.follows .mixedOrders = true) (T : (Nat → Value) → Nat → Ty) (hd : Looks (l1 ++ l2) T) (hchk : regionChk (l1 ++ l2) = true) (htail : tailChk (l1 ++ l2) l1.length = true) (hdf : noDefers (l1 ++ l2) = true)
    (h : ∀ v, Obls P (l1 ++ l2).toArray (T v) w0 (fun a' w' => wpList P (l1 ++ l2).toArray (Qn (Q .normal)) l2 a' w') v 0 l1 a0) :
    (Code.region id (l1 ++ l2).toArray true).wpIn (Fence.wide.inRound lp) m P Q a0 w0 := by
  have e : wpOps P (l1 ++ l2).toArray (Qn (Q .normal)) (List.range' l1.length l2.length) = wpList P (l1 ++ l2).toArray (Qn (Q .normal)) l2 := wpOps_eq_wpList l2 l1.length (fun j => by rw [List.getElem?_toArray, List.getElem?_append_right (by omega)]; congr 1; omega)
  refine wpIn_any hm hdf (wpAny_headV (regionChk_spec hchk) hd (tailChk_spec htail) (by rw [e]; exact h) _ _ _ _ (fun _ => undef) ?_ (fun j _ => ?_) (by
    have := stand_start (ops := l1 ++ l2) (T := T (fun _ => undef)) (w0 := w0) (a0 := a0) (w := w0.drew) (Ext.drew (Ext.refl w0)) (fun _ => undef)
    simpa using this))
  · have : (undone l1.length (Array.replicate (l1 ++ l2).toArray.size false)).length ≤ l1.length := by
      unfold undone
      refine Nat.le_trans (List.length_filter_le _ _) ?_
      simp
    simp only [List.size_toArray, List.length_append] at this ⊢
    omega
  · simp only [Array.getD_eq_getD_getElem?, Array.getElem?_replicate]
    split <;> rfl
end
theorem wpIn_drawn_tailV {P : Program} {Q : Exit → Act → World → Prop} {w0 : World} {a0 : List Value} {ds : List Deferred} {id lp m : Nat} {l : List Oper} (n : Nat) (T : (Nat → Value) → Nat → Ty) (hd : Looks l T) (hm : P.follows .mixedOrders = true) (hchk : regionChk l = true) (htail : tailChk l n = true) (hn : n ≤ l.length) (hin : dstsIn a0.length l = true) (hdf : noDefers l = true)
    (h : ∀ v, OblsE P l (T v) w0 a0 (fun l' w' => wpList P l.toArray (Qn (Q .normal)) (l.drop n) ⟨l'.toArray, ds⟩ w') v 0 (l.take n) []) : (Code.region id l.toArray true).wpIn (Fence.wide.inRound lp) m P Q ⟨a0.toArray, ds⟩ w0 := by
  have e : l.take n ++ l.drop n = l := List.take_append_drop n l
  have hl : (l.take n).length = n := by simp; omega
  have := wpIn_typed_tailV (P := P) (l1 := l.take n) (l2 := l.drop n) (w0 := w0) (a0 := ⟨a0.toArray, ds⟩) (Q := Q) (id := id) (lp := lp) (m := m) hm T (by rw [e]; exact hd) (by rw [e]; exact hchk) (by rw [e, hl]; exact htail) (by rw [e]; exact hdf) (by
    rw [e]
    intro v
    exact OblsE.obls (Q := fun a w => wpList P l.toArray (Qn (Q .normal)) (l.drop n) a w) hin (l.take n) 0 [] (by simp) (dstsIn_take l n hin) (h v))
  rwa [e] at this
theorem looks_const {l : List Oper} (T : Nat → Ty) : Looks l (fun _ => T) := fun _ _ _ _ => rfl
end Go.Proofs.YtjhdamjbljafhaaGreatDoor
namespace Go.Proofs.YtjhdamjbljafhaaGreatDoor
open Go.RowKit
def pW (p : GPage) : Nat := (p.l.map nF).sum + (p.f.map nF).sum
def psum (ps : List GPage) : Nat := (ps.map pW).sum
theorem pW_of (n : Nat) (xs : List GLn) : pW (pageOf n xs) = wsum xs := by
  induction xs with
  | nil => rfl
  | cons x xs ih =>
    unfold pW pageOf at ih ⊢
    simp only [wsum, List.map_cons, List.sum_cons, List.flatMap_cons, List.map_append, List.sum_append, lW] at ih ⊢
    omega
theorem psum_append (a b : List GPage) : psum (a ++ b) = psum a + psum b := by simp [psum]
def PgOk1 (W H : Int) (p : GPage) : Prop := p.l ≠ [] ∧ (∀ s ∈ p.l, (s.size : Int) ≤ W) ∧ (∀ s ∈ p.f, (s.size : Int) ≤ W) ∧ ((1 + p.l.length + if 0 < p.f.length then 1 + p.f.length else 0 : Nat) : Int) ≤ H
structure PgOk (W H : Int) (ps : List GPage) : Prop where
  num : ∀ k (h : k < ps.length), ps[k].n = k + 1
  each : ∀ p ∈ ps, PgOk1 W H p
theorem flat_len (xs : List GLn) : (xs.flatMap Prod.snd).length = nsum xs := by rw [List.length_flatMap]; rfl
theorem pgOk_of {W H : Int} {n : Nat} {xs : List GLn} (h1 : 1 ≤ xs.length) (h2 : ∀ x ∈ xs, LnOk W x) (h3 : (highF xs : Int) ≤ H) : PgOk1 W H (pageOf n xs) := by
  refine ⟨?_, ?_, ?_, ?_⟩
  · intro e
    simp only [pageOf, List.map_eq_nil_iff] at e
    subst e
    simp at h1
  · intro s hs
    simp only [pageOf, List.mem_map] at hs
    obtain ⟨x, hx, rfl⟩ := hs
    exact (h2 x hx).1.1
  · intro s hs
    simp only [pageOf, List.mem_flatMap] at hs
    obtain ⟨x, hx, hs⟩ := hs
    exact ((h2 x hx).2 s hs).1
  · unfold highF at h3
    simp only [pageOf, List.length_map, flat_len]
    refine Int.le_trans (Int.ofNat_le.2 ?_) h3
    split <;> omega
theorem PgOk.nil {W H : Int} : PgOk W H [] := ⟨fun k h => by simp at h, fun p h => by simp at h⟩
theorem PgOk.snoc {W H : Int} {ps : List GPage} {p : GPage} (h : PgOk W H ps) (hn : p.n = ps.length + 1) (hp : PgOk1 W H p) : PgOk W H (ps ++ [p]) := by
  refine ⟨fun k hk => ?_, fun q hq => ?_⟩
  · rcases Nat.lt_or_ge k ps.length with hlt | hge
    · rw [List.getElem_append_left hlt]; exact h.num k hlt
    · have : k = ps.length := by simp at hk; omega
      subst this
      simp [hn]
  · rcases List.mem_append.1 hq with hq | hq
    · exact h.each q hq
    · rw [List.mem_singleton.1 hq]; exact hp
theorem psum_len {W : Int} : ∀ {ps : List GPage}, (∀ p ∈ ps, 1 ≤ pW p) → ps.length ≤ psum ps
  | [], _ => Nat.le_refl _
  | p :: ps, h => by
    have h1 := h p (by simp)
    have h2 := psum_len (W := W) (ps := ps) (fun q hq => h q (List.mem_cons_of_mem _ hq))
    simp only [psum, List.map_cons, List.sum_cons, List.length_cons] at *
    omega
theorem wsum_pos {W : Int} {xs : List GLn} (h1 : 1 ≤ xs.length) (h2 : ∀ x ∈ xs, LnOk W x) : 1 ≤ wsum xs := by
  have := wsum_len xs h2
  omega
def pieceL (xs : List GLn) (p : Nat × Nat) : List GLn := (xs.drop p.1).take (p.2 - p.1)
def piecesW (xs : List GLn) (l : List (Nat × Nat)) : Nat := (l.map fun p => wsum (pieceL xs p)).sum
theorem chain_sum (xs : List GLn) : ∀ (l : List (Nat × Nat)) (a : Nat), Chain xs.length a l xs.length → piecesW xs l = wsum (xs.drop a)
  | [], a, h => by
    have h : a = xs.length := h
    rw [h, List.drop_length]
    rfl
  | p :: l, a, h => by
    obtain ⟨h1, h2, h3, h4⟩ := h
    have ih := chain_sum xs l p.2 h4
    have e : xs.drop a = pieceL xs p ++ xs.drop p.2 := by
      unfold pieceL
      rw [h1]
      have := List.take_append_drop (p.2 - a) (xs.drop a)
      rw [List.drop_drop] at this
      rw [show a + (p.2 - a) = p.2 by omega] at this
      exact this.symm
    rw [e, wsum_append, ← ih]
    simp [piecesW]
theorem pieceL_mem {xs : List GLn} {p : Nat × Nat} {x : GLn} (h : x ∈ pieceL xs p) : x ∈ xs := List.mem_of_mem_drop (List.mem_of_mem_take h)
theorem pieceL_fst (xs : List GLn) (p : Nat × Nat) : (pieceL xs p).map Prod.fst = ((xs.map Prod.fst).drop p.1).take (p.2 - p.1) := by simp [pieceL, List.map_take, List.map_drop]
theorem wsum_piece (xs : List GLn) (p : Nat × Nat) : wsum (pieceL xs p) ≤ wsum xs := by
  have e : wsum xs = wsum (xs.take p.1) + (wsum (pieceL xs p) + wsum ((xs.drop p.1).drop (p.2 - p.1))) := by
    rw [← wsum_append, pieceL, List.take_append_drop, ← wsum_append, List.take_append_drop]
  omega
structure Lo (ws : World) (b9 b10 : Nat) (W : World) : Prop where
  size : ws.heap.size ≤ W.heap.size
  same : ∀ k, k < ws.heap.size → k ≠ b9 → k ≠ b10 → W.heap[k]? = ws.heap[k]?
theorem Lo.refl (ws : World) (b9 b10 : Nat) : Lo ws b9 b10 ws := ⟨Nat.le_refl _, fun _ _ _ _ => rfl⟩
section
variable {ws W W' : World} {b9 b10 : Nat}
theorem Lo.ext (h : Lo ws b9 b10 W) (he : Ext W W') : Lo ws b9 b10 W' := ⟨Nat.le_trans h.size he.size, fun k h1 h2 h3 => (he.block (Nat.lt_of_lt_of_le h1 h.size)).trans (h.same k h1 h2 h3)⟩
theorem Lo.grown {row : Option Nat} (h : Lo ws b9 b10 W) (hg : W.grownBy W' row) (hr : ∀ k, row = some k → ws.heap.size ≤ k) : Lo ws b9 b10 W' :=
  ⟨Nat.le_trans h.size hg.size, fun k h1 h2 h3 => (hg.block k (Nat.lt_of_lt_of_le h1 h.size) (fun e => by have := hr k e.symm; omega)).trans (h.same k h1 h2 h3)⟩
theorem Lo.put {g : Nat} (h : Lo ws b9 b10 W) (hg : g = b9 ∨ g = b10) (hw : ∀ k, k ≠ g → W'.heap[k]? = W.heap[k]?) (hs : W'.heap.size = W.heap.size) : Lo ws b9 b10 W' :=
  ⟨by rw [hs]; exact h.size, fun k h1 h2 h3 => (hw k (by rcases hg with rfl | rfl <;> assumption)).trans (h.same k h1 h2 h3)⟩
theorem Lo.cell {p : Addr} (h : Lo ws b9 b10 W) (h1 : p.block < ws.heap.size) (h2 : p.block ≠ b9) (h3 : p.block ≠ b10) : W.cell? p = ws.cell? p := by
  unfold World.cell?
  rw [h.same _ h1 h2 h3]
theorem Lo.own {P : Program} {α : Type} {D : El P α} {v : Value} {base : Nat} {xs : List α} (h : Lo ws b9 b10 W) (ho : Own D base ws v xs) (h2 : v.ownBlock ≠ some b9) (h3 : v.ownBlock ≠ some b10) : Own D base W v xs :=
  ho.keep fun k hk => h.same k (block_lt (ho.bd hk).2.choose_spec) (fun e => h2 (by rw [hk, e])) (fun e => h3 (by rw [hk, e]))
theorem Lo.sl {P : Program} {α : Type} {D : El P α} {A : Option Addr} {xs : List α} (h : Lo ws b9 b10 W) (hs : Sl D ws A xs) (hn : xs ≠ [] → ∀ a, A = some a → a.block ≠ b9 ∧ a.block ≠ b10) : Sl D W A xs := fun hx => by
  obtain ⟨b, off, rfl, hb, hc⟩ := hs hx
  obtain ⟨n1, n2⟩ := hn hx _ rfl
  exact ⟨b, off, rfl, Nat.lt_of_lt_of_le hb h.size, fun j u hu => (h.cell (p := ⟨b, off + j, none⟩) hb n1 n2).trans (hc j u hu)⟩
end
theorem lines_ne {w : World} {A : Option Addr} {xs : List RLine} (hs : Sl lineEl w A xs) {g : Nat} {B : Option Addr} {n c : Nat} {t : TypeId} {fr : Nat × Nat} (hg : w.heap[g]? = some (.cells #[.slice B n c] t fr)) (hx : xs ≠ []) : ∀ a, A = some a → a.block ≠ g := by
  intro a ha e
  obtain ⟨b, off, hA, hb, hc⟩ := hs hx
  rw [hA] at ha
  cases ha
  obtain ⟨x, l, rfl⟩ := List.exists_cons_of_ne_nil hx
  have h0 := hc 0 (.string x.t) (by simp [El.flat, lineEl, RLine.cells])
  dsimp only at e
  subst e
  simp only [World.cell?, hg, Nat.add_zero] at h0
  rcases off with _ | off
  · simp at h0
  · simp at h0
structure PSt (w0 ws : World) (b9 b10 : Nat) (L : List (GPage × RPage)) (now : List GLn) (vo vn : Value) (W : World) : Prop where
  ext : Ext w0 W
  lo : Lo ws b9 b10 W
  l9 : w0.heap.size ≤ b9
  l10 : w0.heap.size ≤ b10
  lw : w0.heap.size ≤ ws.heap.size
  ne : b9 ≠ b10
  h9 : W.heap[b9]? = some (.cells #[vo] 29 (0, 0))
  h10 : W.heap[b10]? = some (.cells #[vn] 47 (0, 0))
  out : Own pageEl ws.heap.size W vo (L.map Prod.snd)
  pgs : ∀ x ∈ L, PageO W x.1 x.2
  cur : Own lineEl 0 W vn (now.map Prod.fst)
  nts : ∀ x ∈ now, NoteO W x
theorem PageO.keep {w w' : World} {p : GPage} {r : RPage} (h : PageO w p r) (hl : Own strEl 0 w' (.slice r.lA r.ln r.lc) p.l) (hf : Own strEl 0 w' (.slice r.nA r.nn r.nc) p.f) : PageO w' p r := ⟨h.n, hl, h.ln, hf, h.fn⟩
section
variable {w0 ws W W' : World} {b9 b10 : Nat} {L : List (GPage × RPage)} {now : List GLn} {vo vn : Value}
theorem PSt.grow (h : PSt w0 ws b9 b10 L now vo vn W) (he : Ext W W') : PSt w0 ws b9 b10 L now vo vn W' :=
  ⟨h.ext.trans he, h.lo.ext he, h.l9, h.l10, h.lw, h.ne, (he.block (block_lt h.h9)).trans h.h9, (he.block (block_lt h.h10)).trans h.h10, h.out.ext he, fun x hx => (h.pgs x hx).ext he, h.cur.ext he, fun x hx => (h.nts x hx).ext he⟩
theorem PSt.other (h : PSt w0 ws b9 b10 L now vo vn W) {row : Option Nat} (hg : W.grownBy W' row) (hr : ∀ k, row = some k → ws.heap.size ≤ k ∧ ∃ o : Obj, W.heap[k]? = some o ∧ o.isCells = false) : PSt w0 ws b9 b10 L now vo vn W' := by
  have hb : ∀ {k : Nat} {cs : Array Value} {t : TypeId} {fr : Nat × Nat}, W.heap[k]? = some (.cells cs t fr) → W'.heap[k]? = W.heap[k]? := fun {k cs t fr} hk => hg.block k (block_lt hk) (fun e => by
    obtain ⟨-, o, ho, hc⟩ := hr k e.symm
    rw [hk] at ho
    cases ho
    cases hc)
  have ho : ∀ {P : Program} {α : Type} {D : El P α} {v : Value} {base : Nat} {xs : List α}, Own D base W v xs → Own D base W' v xs := fun {P α D v base xs} h => h.keep fun k hk => (hb (h.bd hk).2.choose_spec)
  exact ⟨h.ext.grown hg h.ext.size (fun k e => Nat.le_trans h.lw (hr k e).1), h.lo.grown hg (fun k e => (hr k e).1), h.l9, h.l10, h.lw, h.ne, (hb h.h9).trans h.h9, (hb h.h10).trans h.h10, ho h.out, fun x hx => (h.pgs x hx).keep (ho (h.pgs x hx).l) (ho (h.pgs x hx).f), ho h.cur, fun x hx => ⟨ho (h.nts x hx).1, (h.nts x hx).2⟩⟩
theorem PSt.page (h : PSt w0 ws b9 b10 L now vo vn W) {v' : Value} {w2 : World} {p : GPage} {r : RPage} (hp : PageO W p r) (h1 : Own pageEl ws.heap.size w2 v' (L.map Prod.snd ++ [r])) (h2 : W.grownBy w2 vo.ownBlock) :
    w2.heap[b9]? = some (.cells #[vo] 29 (0, 0)) ∧ ∀ w3 : World, (∀ k, k ≠ b9 → w3.heap[k]? = w2.heap[k]?) → w3.os = w2.os → w3.tape = w2.tape → w3.output = w2.output → w3.heap.size = w2.heap.size → w3.heap[b9]? = some (.cells #[v'] 29 (0, 0)) → PSt w0 ws b9 b10 (L ++ [(p, r)]) now v' vn w3 := by
  have e9 : w2.heap[b9]? = W.heap[b9]? := h2.block _ (block_lt h.h9) (fun e => h.out.ne h.h9 (by decide) _ e.symm rfl)
  have e10 : w2.heap[b10]? = W.heap[b10]? := h2.block _ (block_lt h.h10) (fun e => h.out.ne h.h10 (by decide) _ e.symm rfl)
  have hx : Ext w0 w2 := h.ext.grown h2 h.ext.size fun k hk => Nat.le_trans h.lw (h.out.bd hk).1
  have hl : Lo ws b9 b10 w2 := h.lo.grown h2 fun k hk => (h.out.bd hk).1
  have b2 := e9.trans h.h9
  refine ⟨b2, fun w3 hw3 hos htp hou hs hbk => ?_⟩
  have kp : ∀ {P : Program} {α : Type} {D : El P α} {v : Value} {base : Nat} {xs : List α}, Own D base w2 v xs → D.e ≠ 29 → Own D base w3 v xs := fun {P α D v base xs} h ht => h.keep fun k hk => hw3 k (h.ne b2 (fun e => ht e.symm) k hk)
  have ks : ∀ {v : Value} {xs : List ByteArray}, Own strEl 0 W v xs → Own strEl 0 w3 v xs := fun {v xs} ho => kp (ho.other h.out (by decide) h2) (by decide)
  have kg : ∀ {q : GPage} {s : RPage}, PageO W q s → PageO w3 q s := fun {q s} hq => hq.keep (ks hq.l) (ks hq.f)
  refine ⟨hx.put h.l9 hw3 hos htp hou hs, hl.put (.inl rfl) hw3 hs, h.l9, h.l10, h.lw, h.ne, hbk, (hw3 b10 h.ne.symm).trans (e10.trans h.h10), ?_, fun x hx => ?_, kp (h.cur.other h.out (by decide) h2) (by decide), fun x hx => ⟨ks (h.nts x hx).1, (h.nts x hx).2⟩⟩
  · rw [List.map_append]
    exact kp h1 (by decide)
  · rcases List.mem_append.1 hx with hx | hx
    · exact kg (h.pgs x hx)
    · rw [List.mem_singleton.1 hx]; exact kg hp
theorem PSt.set (h : PSt w0 ws b9 b10 L now vo vn W) {v' : Value} {now' : List GLn} (hn : Own lineEl 0 W v' (now'.map Prod.fst)) (hN : ∀ x ∈ now', NoteO W x) :
    ∀ w3 : World, (∀ k, k ≠ b10 → w3.heap[k]? = W.heap[k]?) → w3.os = W.os → w3.tape = W.tape → w3.output = W.output → w3.heap.size = W.heap.size → w3.heap[b10]? = some (.cells #[v'] 47 (0, 0)) → PSt w0 ws b9 b10 L now' vo v' w3 := by
  intro w3 hw3 hos htp hou hs hbk
  have kp : ∀ {P : Program} {α : Type} {D : El P α} {v : Value} {base : Nat} {xs : List α}, Own D base W v xs → D.e ≠ 47 → Own D base w3 v xs := fun {P α D v base xs} ho ht => ho.keep fun k hk => hw3 k (ho.ne h.h10 (fun e => ht e.symm) k hk)
  exact ⟨h.ext.put h.l10 hw3 hos htp hou hs, h.lo.put (.inr rfl) hw3 hs, h.l9, h.l10, h.lw, h.ne, (hw3 b9 h.ne).trans h.h9, hbk, kp h.out (by decide), fun x hx => (h.pgs x hx).keep (kp (h.pgs x hx).l (by decide)) (kp (h.pgs x hx).f (by decide)), kp hn (by decide), fun x hx => ⟨kp (hN x hx).1 (by decide), (hN x hx).2⟩⟩
end
end Go.Proofs.YtjhdamjbljafhaaGreatDoor
