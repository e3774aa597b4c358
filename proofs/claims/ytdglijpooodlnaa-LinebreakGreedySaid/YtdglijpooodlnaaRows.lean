/-
  No cell of these rows narrows 'for every input' (looked for: loops, veiled, ifaces, maps, wideKeys, modest, calm, conditions, laid).
  DERIVED. THE GIVEN ROWS OF THIS SEAT. 7 by the template 'for every input the law returns true; each argument reads behind the call as it read before'; 0 by the template 'total and deterministic' (their statements: YtdglijpooodlnaaTotals.lean).
  GIVEN WITH THE SEED: the statements are not yours to turn. If you find one false, say at which input.
  Laid BY PROGRAM, IN A SANDBOX (cutbox-rows.mjs): the forced cells as the released guide's own fill.sh prints them over the translation 42425054d1e6640e… (all of the seat's roots in one cut). By AI agents, Wed Nov 11 2026. No macro, syntax, notation, axiom, sorry.
-/
import Derived.Test.YtdglijpooodlnaaChecked
import GoSem.Claim
import GoSem.ClaimJoined
import GoSem.ClaimMapViews
import Derived.JoinedTies
import Derived.KernelRfl
namespace Go.Proofs.Ytdglijpooodlnaa
/- THE CELL 'sum', in the pinned program and in every row, IS THE sha256 OF THE DUMP (.gsa) THAT YtdglijpooodlnaaProg.lean LOADS. Nothing in Lean hashes anything: it is a label: what it is worth is what the hold of that sum in a sandbox is worth. -/
noncomputable def Try.pinned : Pinned := { name := "ytdglijpooodlnaa", sum := "42425054d1e6640e1326bc15efefdf91a53f0765d925deec8b4faa5dbbd49ed9", checked := Try.checked }
namespace Rows
def none {H : Type} : Left H := { results := [], args := [] }

/-- 'pandectlaw54.LinebreakBreaks': WHATEVER THE INPUT: true; the input reads as it did. -/
def linebreakBreaksSpec : ChangeSpec := { name := "linebreakBreaks", fn := fun _ => fun
  | [d1, d2] => { results := [.lit (.bool true)], args := [d1, d2] }
  | _ => none }
def linebreakBreaksRow : OpenClaim := { program := "ytdglijpooodlnaa", sum := "42425054d1e6640e1326bc15efefdf91a53f0765d925deec8b4faa5dbbd49ed9", func := "pandect/pandectlaw54.LinebreakBreaks", spec := "linebreakBreaks", inPlace := ["internal/abi.NoEscape", "internal/bytealg.MakeNoZero", "internal/bytealg.CountString", "internal/bytealg.IndexByteString", "internal/bytealg.IndexString"], unfollowed := true, recurses := true, named := ["internal/bytealg.MaxLen"], apart := false }
def LinebreakBreaksSaid : Prop := linebreakBreaksRow.holds Try.pinned (OpenSpec.ofChange linebreakBreaksSpec)

/-- ITS FALSE NEIGHBOUR: 'it returns false'. Refute it at one input. -/
def linebreakBreaksWrong : ChangeSpec := { name := "linebreakBreaks", fn := fun _ => fun
  | [d1, d2] => { results := [.lit (.bool false)], args := [d1, d2] }
  | _ => none }
def LinebreakBreaksWrongFalsely : Prop := linebreakBreaksRow.holds Try.pinned (OpenSpec.ofChange linebreakBreaksWrong)

/-- 'pandectlaw54.LinebreakCosts': WHATEVER THE INPUT: true; the input reads as it did. -/
def linebreakCostsSpec : ChangeSpec := { name := "linebreakCosts", fn := fun _ => fun
  | [d1, d2, d3] => { results := [.lit (.bool true)], args := [d1, d2, d3] }
  | _ => none }
def linebreakCostsRow : OpenClaim := { program := "ytdglijpooodlnaa", sum := "42425054d1e6640e1326bc15efefdf91a53f0765d925deec8b4faa5dbbd49ed9", func := "pandect/pandectlaw54.LinebreakCosts", spec := "linebreakCosts", inPlace := ["internal/abi.NoEscape", "internal/bytealg.MakeNoZero", "internal/bytealg.CountString", "internal/bytealg.IndexByteString", "internal/bytealg.IndexString"], unfollowed := true, recurses := true, named := ["internal/bytealg.MaxLen"], apart := false }
def LinebreakCostsSaid : Prop := linebreakCostsRow.holds Try.pinned (OpenSpec.ofChange linebreakCostsSpec)

/-- ITS FALSE NEIGHBOUR: 'it returns false'. Refute it at one input. -/
def linebreakCostsWrong : ChangeSpec := { name := "linebreakCosts", fn := fun _ => fun
  | [d1, d2, d3] => { results := [.lit (.bool false)], args := [d1, d2, d3] }
  | _ => none }
def LinebreakCostsWrongFalsely : Prop := linebreakCostsRow.holds Try.pinned (OpenSpec.ofChange linebreakCostsWrong)

/-- 'pandectlaw54.LinebreakJustifies': WHATEVER THE INPUT: true; the input reads as it did. -/
def linebreakJustifiesSpec : ChangeSpec := { name := "linebreakJustifies", fn := fun _ => fun
  | [d1, d2] => { results := [.lit (.bool true)], args := [d1, d2] }
  | _ => none }
def linebreakJustifiesRow : OpenClaim := { program := "ytdglijpooodlnaa", sum := "42425054d1e6640e1326bc15efefdf91a53f0765d925deec8b4faa5dbbd49ed9", func := "pandect/pandectlaw54.LinebreakJustifies", spec := "linebreakJustifies", inPlace := ["internal/abi.NoEscape", "internal/bytealg.MakeNoZero", "internal/bytealg.CountString", "internal/bytealg.IndexByteString", "internal/bytealg.IndexString"], unfollowed := true, recurses := true, named := ["internal/bytealg.MaxLen"], apart := false }
def LinebreakJustifiesSaid : Prop := linebreakJustifiesRow.holds Try.pinned (OpenSpec.ofChange linebreakJustifiesSpec)

/-- ITS FALSE NEIGHBOUR: 'it returns false'. Refute it at one input. -/
def linebreakJustifiesWrong : ChangeSpec := { name := "linebreakJustifies", fn := fun _ => fun
  | [d1, d2] => { results := [.lit (.bool false)], args := [d1, d2] }
  | _ => none }
def LinebreakJustifiesWrongFalsely : Prop := linebreakJustifiesRow.holds Try.pinned (OpenSpec.ofChange linebreakJustifiesWrong)

/-- 'pandectlaw54.LinebreakOptimality': WHATEVER THE INPUT: true; the input reads as it did. -/
def linebreakOptimalitySpec : ChangeSpec := { name := "linebreakOptimality", fn := fun _ => fun
  | [d1, d2, d3] => { results := [.lit (.bool true)], args := [d1, d2, d3] }
  | _ => none }
def linebreakOptimalityRow : OpenClaim := { program := "ytdglijpooodlnaa", sum := "42425054d1e6640e1326bc15efefdf91a53f0765d925deec8b4faa5dbbd49ed9", func := "pandect/pandectlaw54.LinebreakOptimality", spec := "linebreakOptimality", inPlace := ["internal/abi.NoEscape", "internal/bytealg.MakeNoZero", "internal/bytealg.CountString", "internal/bytealg.IndexByteString", "internal/bytealg.IndexString"], unfollowed := true, recurses := true, named := ["internal/bytealg.MaxLen"], apart := false }
def LinebreakOptimalitySaid : Prop := linebreakOptimalityRow.holds Try.pinned (OpenSpec.ofChange linebreakOptimalitySpec)

/-- ITS FALSE NEIGHBOUR: 'it returns false'. Refute it at one input. -/
def linebreakOptimalityWrong : ChangeSpec := { name := "linebreakOptimality", fn := fun _ => fun
  | [d1, d2, d3] => { results := [.lit (.bool false)], args := [d1, d2, d3] }
  | _ => none }
def LinebreakOptimalityWrongFalsely : Prop := linebreakOptimalityRow.holds Try.pinned (OpenSpec.ofChange linebreakOptimalityWrong)

/-- 'pandectlaw54.LinebreakGreedy': WHATEVER THE INPUT: true; the input reads as it did. -/
def linebreakGreedySpec : ChangeSpec := { name := "linebreakGreedy", fn := fun _ => fun
  | [d1, d2, d3] => { results := [.lit (.bool true)], args := [d1, d2, d3] }
  | _ => none }
def linebreakGreedyRow : OpenClaim := { program := "ytdglijpooodlnaa", sum := "42425054d1e6640e1326bc15efefdf91a53f0765d925deec8b4faa5dbbd49ed9", func := "pandect/pandectlaw54.LinebreakGreedy", spec := "linebreakGreedy", inPlace := ["internal/abi.NoEscape", "internal/bytealg.MakeNoZero", "internal/bytealg.CountString", "internal/bytealg.IndexByteString", "internal/bytealg.IndexString"], unfollowed := true, recurses := true, named := ["internal/bytealg.MaxLen"], apart := false }
def LinebreakGreedySaid : Prop := linebreakGreedyRow.holds Try.pinned (OpenSpec.ofChange linebreakGreedySpec)

/-- ITS FALSE NEIGHBOUR: 'it returns false'. Refute it at one input. -/
def linebreakGreedyWrong : ChangeSpec := { name := "linebreakGreedy", fn := fun _ => fun
  | [d1, d2, d3] => { results := [.lit (.bool false)], args := [d1, d2, d3] }
  | _ => none }
def LinebreakGreedyWrongFalsely : Prop := linebreakGreedyRow.holds Try.pinned (OpenSpec.ofChange linebreakGreedyWrong)

/-- 'pandectlaw54.LinebreakContent': WHATEVER THE INPUT: true; the input reads as it did. -/
def linebreakContentSpec : ChangeSpec := { name := "linebreakContent", fn := fun _ => fun
  | [d1, d2] => { results := [.lit (.bool true)], args := [d1, d2] }
  | _ => none }
def linebreakContentRow : OpenClaim := { program := "ytdglijpooodlnaa", sum := "42425054d1e6640e1326bc15efefdf91a53f0765d925deec8b4faa5dbbd49ed9", func := "pandect/pandectlaw54.LinebreakContent", spec := "linebreakContent", inPlace := ["internal/abi.NoEscape", "internal/bytealg.MakeNoZero", "internal/bytealg.CountString", "internal/bytealg.IndexByteString", "internal/bytealg.IndexString"], unfollowed := true, recurses := true, named := ["internal/bytealg.MaxLen"], apart := false }
def LinebreakContentSaid : Prop := linebreakContentRow.holds Try.pinned (OpenSpec.ofChange linebreakContentSpec)

/-- ITS FALSE NEIGHBOUR: 'it returns false'. Refute it at one input. -/
def linebreakContentWrong : ChangeSpec := { name := "linebreakContent", fn := fun _ => fun
  | [d1, d2] => { results := [.lit (.bool false)], args := [d1, d2] }
  | _ => none }
def LinebreakContentWrongFalsely : Prop := linebreakContentRow.holds Try.pinned (OpenSpec.ofChange linebreakContentWrong)

/-- 'pandectlaw54.LinebreakWidths': WHATEVER THE INPUT: true; the input reads as it did. -/
def linebreakWidthsSpec : ChangeSpec := { name := "linebreakWidths", fn := fun _ => fun
  | [d1, d2, d3] => { results := [.lit (.bool true)], args := [d1, d2, d3] }
  | _ => none }
def linebreakWidthsRow : OpenClaim := { program := "ytdglijpooodlnaa", sum := "42425054d1e6640e1326bc15efefdf91a53f0765d925deec8b4faa5dbbd49ed9", func := "pandect/pandectlaw54.LinebreakWidths", spec := "linebreakWidths", inPlace := ["internal/abi.NoEscape", "internal/bytealg.MakeNoZero", "internal/bytealg.CountString", "internal/bytealg.IndexByteString", "internal/bytealg.IndexString"], unfollowed := true, recurses := true, named := ["internal/bytealg.MaxLen"], apart := false }
def LinebreakWidthsSaid : Prop := linebreakWidthsRow.holds Try.pinned (OpenSpec.ofChange linebreakWidthsSpec)

/-- ITS FALSE NEIGHBOUR: 'it returns false'. Refute it at one input. -/
def linebreakWidthsWrong : ChangeSpec := { name := "linebreakWidths", fn := fun _ => fun
  | [d1, d2, d3] => { results := [.lit (.bool false)], args := [d1, d2, d3] }
  | _ => none }
def LinebreakWidthsWrongFalsely : Prop := linebreakWidthsRow.holds Try.pinned (OpenSpec.ofChange linebreakWidthsWrong)

/- THE SECOND FORM. 'bulk': how many values and letters a reading holds, each counted each time it is reached (what is shared counts as often as it is met; a slice's spare places count too). A statement '..UptoSaid' is the law's where the arguments, and the package variables that the reading takes, are together of bulk at most 1048576: NARROWER than '..Said'. Prove '..Said' where nothing that the law and all that it calls make is longer than what came in: it says more and counts as full. Else prove '..UptoSaid'. A law counts once. -/
mutual
def uptoBulk {H : Type} : DataW H → Nat
  | .lit (.string bytes) => bytes.length + 1
  | .lit _ => 1
  | .nil => 1
  | .ptr d => uptoBulk d + 1
  | .slice elems spare => uptoBulkAll elems + uptoBulkAll spare + 1
  | .agg parts => uptoBulkAll parts + 1
  | .iface _ d => uptoBulk d + 1
  | .map entries => uptoBulkEntries entries + 1
  | .held _ => 1
def uptoBulkAll {H : Type} : List (DataW H) → Nat
  | [] => 0
  | d :: r => uptoBulk d + uptoBulkAll r
def uptoBulkEntries {H : Type} : List (Lit × DataW H) → Nat
  | [] => 0
  | x :: r => uptoBulkEntry x + uptoBulkEntries r
def uptoBulkEntry {H : Type} : Lit × DataW H → Nat
  | (.string bytes, d) => bytes.length + uptoBulk d + 1
  | (_, d) => uptoBulk d + 1
 end
def uptoSmall : (H : Type) → List (DataW H) → Bool := fun _ ds => decide (uptoBulkAll ds ≤ 1048576)
def OpenSpec.upto (s : _root_.Go.ChangeSpec) : _root_.Go.OpenSpec := { _root_.Go.OpenSpec.ofChange s with cond := some uptoSmall }

/-- 'pandectlaw54.LinebreakBreaks', WHERE WHAT IT READS IS OF BULK AT MOST 1048576: true; the input reads as it did. -/
def linebreakBreaksUptoRow : OpenClaim := { program := "ytdglijpooodlnaa", sum := "42425054d1e6640e1326bc15efefdf91a53f0765d925deec8b4faa5dbbd49ed9", func := "pandect/pandectlaw54.LinebreakBreaks", spec := "linebreakBreaks", inPlace := ["internal/abi.NoEscape", "internal/bytealg.MakeNoZero", "internal/bytealg.CountString", "internal/bytealg.IndexByteString", "internal/bytealg.IndexString"], unfollowed := true, recurses := true, named := ["internal/bytealg.MaxLen"], apart := false, narrowed := true }
def LinebreakBreaksUptoSaid : Prop := linebreakBreaksUptoRow.holds Try.pinned (OpenSpec.upto linebreakBreaksSpec)

/-- 'pandectlaw54.LinebreakCosts', WHERE WHAT IT READS IS OF BULK AT MOST 1048576: true; the input reads as it did. -/
def linebreakCostsUptoRow : OpenClaim := { program := "ytdglijpooodlnaa", sum := "42425054d1e6640e1326bc15efefdf91a53f0765d925deec8b4faa5dbbd49ed9", func := "pandect/pandectlaw54.LinebreakCosts", spec := "linebreakCosts", inPlace := ["internal/abi.NoEscape", "internal/bytealg.MakeNoZero", "internal/bytealg.CountString", "internal/bytealg.IndexByteString", "internal/bytealg.IndexString"], unfollowed := true, recurses := true, named := ["internal/bytealg.MaxLen"], apart := false, narrowed := true }
def LinebreakCostsUptoSaid : Prop := linebreakCostsUptoRow.holds Try.pinned (OpenSpec.upto linebreakCostsSpec)

/-- 'pandectlaw54.LinebreakJustifies', WHERE WHAT IT READS IS OF BULK AT MOST 1048576: true; the input reads as it did. -/
def linebreakJustifiesUptoRow : OpenClaim := { program := "ytdglijpooodlnaa", sum := "42425054d1e6640e1326bc15efefdf91a53f0765d925deec8b4faa5dbbd49ed9", func := "pandect/pandectlaw54.LinebreakJustifies", spec := "linebreakJustifies", inPlace := ["internal/abi.NoEscape", "internal/bytealg.MakeNoZero", "internal/bytealg.CountString", "internal/bytealg.IndexByteString", "internal/bytealg.IndexString"], unfollowed := true, recurses := true, named := ["internal/bytealg.MaxLen"], apart := false, narrowed := true }
def LinebreakJustifiesUptoSaid : Prop := linebreakJustifiesUptoRow.holds Try.pinned (OpenSpec.upto linebreakJustifiesSpec)

/-- 'pandectlaw54.LinebreakOptimality', WHERE WHAT IT READS IS OF BULK AT MOST 1048576: true; the input reads as it did. -/
def linebreakOptimalityUptoRow : OpenClaim := { program := "ytdglijpooodlnaa", sum := "42425054d1e6640e1326bc15efefdf91a53f0765d925deec8b4faa5dbbd49ed9", func := "pandect/pandectlaw54.LinebreakOptimality", spec := "linebreakOptimality", inPlace := ["internal/abi.NoEscape", "internal/bytealg.MakeNoZero", "internal/bytealg.CountString", "internal/bytealg.IndexByteString", "internal/bytealg.IndexString"], unfollowed := true, recurses := true, named := ["internal/bytealg.MaxLen"], apart := false, narrowed := true }
def LinebreakOptimalityUptoSaid : Prop := linebreakOptimalityUptoRow.holds Try.pinned (OpenSpec.upto linebreakOptimalitySpec)

/-- 'pandectlaw54.LinebreakGreedy', WHERE WHAT IT READS IS OF BULK AT MOST 1048576: true; the input reads as it did. -/
def linebreakGreedyUptoRow : OpenClaim := { program := "ytdglijpooodlnaa", sum := "42425054d1e6640e1326bc15efefdf91a53f0765d925deec8b4faa5dbbd49ed9", func := "pandect/pandectlaw54.LinebreakGreedy", spec := "linebreakGreedy", inPlace := ["internal/abi.NoEscape", "internal/bytealg.MakeNoZero", "internal/bytealg.CountString", "internal/bytealg.IndexByteString", "internal/bytealg.IndexString"], unfollowed := true, recurses := true, named := ["internal/bytealg.MaxLen"], apart := false, narrowed := true }
def LinebreakGreedyUptoSaid : Prop := linebreakGreedyUptoRow.holds Try.pinned (OpenSpec.upto linebreakGreedySpec)

/-- 'pandectlaw54.LinebreakContent', WHERE WHAT IT READS IS OF BULK AT MOST 1048576: true; the input reads as it did. -/
def linebreakContentUptoRow : OpenClaim := { program := "ytdglijpooodlnaa", sum := "42425054d1e6640e1326bc15efefdf91a53f0765d925deec8b4faa5dbbd49ed9", func := "pandect/pandectlaw54.LinebreakContent", spec := "linebreakContent", inPlace := ["internal/abi.NoEscape", "internal/bytealg.MakeNoZero", "internal/bytealg.CountString", "internal/bytealg.IndexByteString", "internal/bytealg.IndexString"], unfollowed := true, recurses := true, named := ["internal/bytealg.MaxLen"], apart := false, narrowed := true }
def LinebreakContentUptoSaid : Prop := linebreakContentUptoRow.holds Try.pinned (OpenSpec.upto linebreakContentSpec)

/-- 'pandectlaw54.LinebreakWidths', WHERE WHAT IT READS IS OF BULK AT MOST 1048576: true; the input reads as it did. -/
def linebreakWidthsUptoRow : OpenClaim := { program := "ytdglijpooodlnaa", sum := "42425054d1e6640e1326bc15efefdf91a53f0765d925deec8b4faa5dbbd49ed9", func := "pandect/pandectlaw54.LinebreakWidths", spec := "linebreakWidths", inPlace := ["internal/abi.NoEscape", "internal/bytealg.MakeNoZero", "internal/bytealg.CountString", "internal/bytealg.IndexByteString", "internal/bytealg.IndexString"], unfollowed := true, recurses := true, named := ["internal/bytealg.MaxLen"], apart := false, narrowed := true }
def LinebreakWidthsUptoSaid : Prop := linebreakWidthsUptoRow.holds Try.pinned (OpenSpec.upto linebreakWidthsSpec)

end Rows
end Go.Proofs.Ytdglijpooodlnaa
