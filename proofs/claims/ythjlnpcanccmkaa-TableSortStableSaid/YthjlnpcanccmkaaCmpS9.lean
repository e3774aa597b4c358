/- The comparing function of a sort, as what its calls answer. -/
import Derived.Test.YthjlnpcanccmkaaSortM9
namespace Go.Proofs.Ythjlnpcanccmkaa
open Go.RowKit

/-- an answer that is negative where the first element goes before the second -/
def TLt (b : Bool) : Ty := ⟨fun v _ => ∃ z : Int, v = .int .i64 z ∧ decide (z < 0) = b, fun _ _ _ _ h => h⟩

/-- the comparing function: whose calls tell the order of the elements of S in the worlds of J -/
structure CmpC (g : Nat) (lt : (RUnit × GUnit) → (RUnit × GUnit) → Bool) (S : (RUnit × GUnit) → Prop) (J : World → Prop) (fv : Value) : Prop where
  keep : ∀ w w', J w → Kp g w w' → J w'
  call : ∃ bs : Array Value, fv = .func (.func 46) #[] bs ∧ ∀ x y w, S x → S y → J w → Calls Try.prog 46 (#[.agg (pairEl.E x).toArray, .agg (pairEl.E y).toArray] ++ bs) w fun e w' => ∃ z : Int, e = .returned (.int .i64 z) ∧ decide (z < 0) = lt x y ∧ Ext w w'

section
variable {g cap n : Nat} {lt : (RUnit × GUnit) → (RUnit × GUnit) → Bool} {S : (RUnit × GUnit) → Prop} {J : World → Prop} {fv : Value} {ρ : Operand → Value} {o : Oper} {w : World} {xs : List (RUnit × GUnit)} {X Y : RUnit × GUnit}
theorem yld_cmp (C : CmpC g lt S J fv) (f x y : Operand) (ts : Array TypeId) (ho : o.op = .call { callee := .value f, args := #[x, y], argTypes := ts }) (hf : ρ f = fv) (hx : ρ x = .agg (pairEl.E X).toArray) (hy : ρ y = .agg (pairEl.E Y).toArray) (sX : S X) (sY : S Y) (hJ : J w) :
    Yld Try.prog ρ o w (TLt (lt X Y)).p := by
  obtain ⟨bs, rfl, hc⟩ := C.call
  have hr : (execOp ρ o).run Try.prog w = .ok (.enter 46 (#[.agg (pairEl.E X).toArray, .agg (pairEl.E Y).toArray] ++ bs)) w := by
    simp [execOp, ho, resolve, Deferred.ofValue, hf, invoke, hx, hy, Try.call46]
  unfold Yld
  rw [hr]
  refine (hc X Y w sX sY hJ).mono ?_
  rintro e w' ⟨z, rfl, hz, he⟩
  exact ⟨_, rfl, he, z, rfl, hz⟩
theorem yld_indexRw (x i : Operand) (ho : o.op = .indexAddr 25 x i) (hx : ρ x = .slice (some ⟨g, 0, none⟩) n cap) (k : Nat) (hi : ρ i = .int .i64 k) (hrw : Rw g cap n w xs) (hk : xs[k]? = some X) : Yld Try.prog ρ o w (TCells (pairEl.E X)).p := by
  obtain ⟨hl, hown⟩ := hrw
  subst hl
  obtain ⟨A, c', hv, hc, hsl⟩ := hown.form
  cases hv
  exact yld_indexAt pairEl x i ho _ xs cap hx k hi hsl X hk
theorem yld_loadRw (x : Operand) (ho : o.op = .load 27 x) (hp : (TCells (pairEl.E X)).p (ρ x) w) : Yld Try.prog ρ o w (Ty.is (.agg (pairEl.E X).toArray)).p :=
  yld_loadAgg 27 x ho Try.isAgg27 8 Try.sizeOf27 (pairEl.E X) (pairEl.hE X) hp rfl
theorem yld_neg (t t' : TypeId) (x y : Operand) (ho : o.op = .binOp .lss t x y t') (b : Bool) (hx : (TLt b).p (ρ x) w) (hy : ρ y = .int .i64 0) : Yld Try.prog ρ o w (Ty.is (.bool b)).p := by
  obtain ⟨z, hz, hb⟩ := hx
  exact yld_binInt .lss t t' x y ho z 0 hz hy (fun w => by rw [run_lss_i64, hb]) rfl
end

end Go.Proofs.Ythjlnpcanccmkaa
