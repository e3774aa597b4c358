/- The listed tables of chapter 10: what the row's condition gives, and a world that meets it. -/
import Derived.Test.YtiacmahfjcolaaaDoorTopU
import Derived.Test.YtiacmahfjcolaaaDoorDec10
import Derived.Stop.LaidErr
import Derived.Test.YtiacmahfjcolaaaDoorCards
import Derived.Test.YtiacmahfjcolaaaDoorTie
namespace Go.Proofs.YtiacmahfjcolaaaDoor
open Go.ChangeShapes Go.WideShapes Go.ChangeAt Go.RowKit Go.Deep

def laid3 : List (String × DataW Unit) := [("math/bits.deBruijn32tab", Rows.laid_math_bits_deBruijn32tab), ("math/bits.deBruijn64tab", Rows.laid_math_bits_deBruijn64tab), ("internal/strconv.uint64pow10", Rows.laid_internal_strconv_uint64pow10)]
theorem tab_of_laid {W : World} (h : laidMet Tryd.prog laid3 W) : Tab W :=
  Lib.tabIs_of_head (g := 0) (t := 92) (e := 85) (n := 20) (by kernel_rfl) (by kernel_rfl) Tryd.underlying92 Tryd.underlying85 (by kernel_rfl) (by kernel_rfl) (laidMet.tail (laidMet.tail h))

def intsOf {H : Type} : DataW H → Array Value
  | .agg l => (l.map fun d => match d with | .lit (.int k n) => Value.int k n | _ => undef).toArray
  | _ => #[]
def setCells (cs : Array Value) : Obj → Obj
  | .cells _ t frozen => .cells cs t frozen
  | o => o
/-- the settled world in which the three tables hold what their initialisers lay -/
noncomputable def laidWorld (os : Os) : World :=
  { World.holding Tryd.prog os ⟨#[], #[], []⟩ with heap := (((World.holding Tryd.prog os ⟨#[], #[], []⟩).heap.modify 1 (setCells (intsOf (H := Unit) Rows.laid_math_bits_deBruijn32tab))).modify 2 (setCells (intsOf (H := Unit) Rows.laid_math_bits_deBruijn64tab))).modify 0 (setCells (intsOf (H := Unit) Rows.laid_internal_strconv_uint64pow10)) }

end Go.Proofs.YtiacmahfjcolaaaDoor
