/- What the laws of chapter 10 share. -/
import Derived.Test.YtiacmahfjcolaaaDoorAwake10
import Derived.Test.YtiacmahfjcolaaaDoorRefNum10
import Derived.Test.YtiacmahfjcolaaaDoorSame610
import Derived.Test.YtiacmahfjcolaaaDoorHelp10
namespace Go.Proofs.YtiacmahfjcolaaaDoor
open Go.RowKit

section
variable {P : Program} {ρ : Operand → Value} {o : Oper} {w : World} {T : Value → World → Prop} {c : Value}
theorem yld_binBool (op : BinOp) (t t' : TypeId) (x y : Operand) (ho : o.op = .binOp op t x y t') (a b : Bool) (hx : ρ x = .bool a) (hy : ρ y = .bool b) (hr : ∀ w, (binOp op t (.bool a) (.bool b)).run P w = .ok c w) (h : T c w) : Yld P ρ o w T :=
  yld_run (w' := w) (v := c) (by cases op <;> simp [execOp, ho, hx, hy, eqGuard, hr]) (Ext.refl _) h
theorem run_eql_bool (a b : Bool) (hab : a = b) (w : World) : (binOp .eql 4 (.bool a) (.bool b)).run Tryd.prog w = .ok (.bool true) w := by
  subst hab
  have h : ∀ d : Nat, (Op.equalIn (d + 1) 4 (.bool a) (.bool a)).run Tryd.prog w = .ok true w := fun d => by
    simp [Op.equalIn, run_underlying Tryd.underlying4]
  simp only [binOp]
  simp [Op.equal, Op.maxDepth, h 9999]
theorem run_eql_strs (t : TypeId) (a : ByteArray) (w : World) : (binOp .eql t (.string a) (.string a)).run Tryd.prog w = .ok (.bool true) w := by
  have h : (a.toList == a.toList) = true := by rw [beq_bytes]; simp
  first
    | go_simp
    | (rw [← h]; go_simp)
end
/-- a unit's value that reads as the tree -/
def TReads (u : GUnit) : Ty := ⟨fun v w => ∃ r : RUnit, v = .agg r.cells.toArray ∧ Reads w u r, fun _ _ _ he ⟨r, h1, h2⟩ => ⟨r, h1, Reads.ext he _ _ h2⟩⟩
theorem isEmpty_iff (u : GUnit) : validB u = decide (((checkF u).length : Int) = 0) := by
  unfold validB
  cases checkF u with
  | nil => rfl
  | cons x r => simp; omega
theorem okT_lens {u : GUnit} (h : OkT u) : (checkF u).length ≤ 9223372036854775807 ∧ (notesF u).length ≤ 9223372036854775807 := ⟨by have := checkF_len h; omega, by have := notesF_len h; omega⟩

end Go.Proofs.YtiacmahfjcolaaaDoor
