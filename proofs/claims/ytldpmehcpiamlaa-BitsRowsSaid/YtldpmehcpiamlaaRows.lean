/-
  No cell of these rows narrows 'for every input' (looked for: loops, veiled, ifaces, maps, wideKeys, modest, calm, conditions, laid).
  DERIVED. THE GIVEN ROWS OF THIS SEAT. 8 by the template 'for every input the law returns true; each argument reads behind the call as it read before'; 0 by the template 'total and deterministic' (their statements: YtldpmehcpiamlaaTotals.lean).
  GIVEN WITH THE SEED: the statements are not yours to turn. If you find one false, say at which input.
  Laid BY PROGRAM, IN A SANDBOX (cutbox-rows.mjs): the forced cells as the released guide's own fill.sh prints them over the translation 3ceaef2fe4531b51… (all of the seat's roots in one cut). By AI agents, Wed Nov 11 2026. No macro, syntax, notation, axiom, sorry.
-/
import Derived.Test.YtldpmehcpiamlaaChecked
import GoSem.Claim
import GoSem.ClaimJoined
import GoSem.ClaimMapViews
import Derived.JoinedTies
import Derived.KernelRfl
namespace Go.Proofs.Ytldpmehcpiamlaa
/- THE CELL 'sum', in the pinned program and in every row, IS THE sha256 OF THE DUMP (.gsa) THAT YtldpmehcpiamlaaProg.lean LOADS. Nothing in Lean hashes anything: it is a label: what it is worth is what the hold of that sum in a sandbox is worth. -/
noncomputable def Try.pinned : Pinned := { name := "ytldpmehcpiamlaa", sum := "3ceaef2fe4531b513fecc2771aa0eb132d19dda286ce8eb6c027410ae519cbf6", checked := Try.checked }
namespace Rows
def none {H : Type} : Left H := { results := [], args := [] }

/-- 'caponierlaw01.BitsParts': WHATEVER THE INPUT: true; the input reads as it did. -/
def bitsPartsSpec : ChangeSpec := { name := "bitsParts", fn := fun _ => fun
  | [d1, d2, d3] => { results := [.lit (.bool true)], args := [d1, d2, d3] }
  | _ => none }
def bitsPartsRow : OpenClaim := { program := "ytldpmehcpiamlaa", sum := "3ceaef2fe4531b513fecc2771aa0eb132d19dda286ce8eb6c027410ae519cbf6", func := "caponier/caponierlaw01.BitsParts", spec := "bitsParts", apart := false }
def BitsPartsSaid : Prop := bitsPartsRow.holds Try.pinned (OpenSpec.ofChange bitsPartsSpec)

/-- ITS FALSE NEIGHBOUR: 'it returns false'. Refute it at one input. -/
def bitsPartsWrong : ChangeSpec := { name := "bitsParts", fn := fun _ => fun
  | [d1, d2, d3] => { results := [.lit (.bool false)], args := [d1, d2, d3] }
  | _ => none }
def BitsPartsWrongFalsely : Prop := bitsPartsRow.holds Try.pinned (OpenSpec.ofChange bitsPartsWrong)

/-- 'caponierlaw01.BitsSigns': WHATEVER THE INPUT: true; the input reads as it did. -/
def bitsSignsSpec : ChangeSpec := { name := "bitsSigns", fn := fun _ => fun
  | [d1, d2] => { results := [.lit (.bool true)], args := [d1, d2] }
  | _ => none }
def bitsSignsRow : OpenClaim := { program := "ytldpmehcpiamlaa", sum := "3ceaef2fe4531b513fecc2771aa0eb132d19dda286ce8eb6c027410ae519cbf6", func := "caponier/caponierlaw01.BitsSigns", spec := "bitsSigns", apart := false }
def BitsSignsSaid : Prop := bitsSignsRow.holds Try.pinned (OpenSpec.ofChange bitsSignsSpec)

/-- ITS FALSE NEIGHBOUR: 'it returns false'. Refute it at one input. -/
def bitsSignsWrong : ChangeSpec := { name := "bitsSigns", fn := fun _ => fun
  | [d1, d2] => { results := [.lit (.bool false)], args := [d1, d2] }
  | _ => none }
def BitsSignsWrongFalsely : Prop := bitsSignsRow.holds Try.pinned (OpenSpec.ofChange bitsSignsWrong)

/-- 'caponierlaw01.BitsHalves': WHATEVER THE INPUT: true; the input reads as it did. -/
def bitsHalvesSpec : ChangeSpec := { name := "bitsHalves", fn := fun _ => fun
  | [d1, d2, d3] => { results := [.lit (.bool true)], args := [d1, d2, d3] }
  | _ => none }
def bitsHalvesRow : OpenClaim := { program := "ytldpmehcpiamlaa", sum := "3ceaef2fe4531b513fecc2771aa0eb132d19dda286ce8eb6c027410ae519cbf6", func := "caponier/caponierlaw01.BitsHalves", spec := "bitsHalves", apart := false }
def BitsHalvesSaid : Prop := bitsHalvesRow.holds Try.pinned (OpenSpec.ofChange bitsHalvesSpec)

/-- ITS FALSE NEIGHBOUR: 'it returns false'. Refute it at one input. -/
def bitsHalvesWrong : ChangeSpec := { name := "bitsHalves", fn := fun _ => fun
  | [d1, d2, d3] => { results := [.lit (.bool false)], args := [d1, d2, d3] }
  | _ => none }
def BitsHalvesWrongFalsely : Prop := bitsHalvesRow.holds Try.pinned (OpenSpec.ofChange bitsHalvesWrong)

/-- 'caponierlaw01.BitsRange': WHATEVER THE INPUT: true; the input reads as it did. -/
def bitsRangeSpec : ChangeSpec := { name := "bitsRange", fn := fun _ => fun
  | [d1, d2] => { results := [.lit (.bool true)], args := [d1, d2] }
  | _ => none }
def bitsRangeRow : OpenClaim := { program := "ytldpmehcpiamlaa", sum := "3ceaef2fe4531b513fecc2771aa0eb132d19dda286ce8eb6c027410ae519cbf6", func := "caponier/caponierlaw01.BitsRange", spec := "bitsRange", apart := false }
def BitsRangeSaid : Prop := bitsRangeRow.holds Try.pinned (OpenSpec.ofChange bitsRangeSpec)

/-- ITS FALSE NEIGHBOUR: 'it returns false'. Refute it at one input. -/
def bitsRangeWrong : ChangeSpec := { name := "bitsRange", fn := fun _ => fun
  | [d1, d2] => { results := [.lit (.bool false)], args := [d1, d2] }
  | _ => none }
def BitsRangeWrongFalsely : Prop := bitsRangeRow.holds Try.pinned (OpenSpec.ofChange bitsRangeWrong)

/-- 'caponierlaw01.BitsPuts': WHATEVER THE INPUT: true; the input reads as it did. -/
def bitsPutsSpec : ChangeSpec := { name := "bitsPuts", fn := fun _ => fun
  | [d1, d2, d3] => { results := [.lit (.bool true)], args := [d1, d2, d3] }
  | _ => none }
def bitsPutsRow : OpenClaim := { program := "ytldpmehcpiamlaa", sum := "3ceaef2fe4531b513fecc2771aa0eb132d19dda286ce8eb6c027410ae519cbf6", func := "caponier/caponierlaw01.BitsPuts", spec := "bitsPuts", apart := false }
def BitsPutsSaid : Prop := bitsPutsRow.holds Try.pinned (OpenSpec.ofChange bitsPutsSpec)

/-- ITS FALSE NEIGHBOUR: 'it returns false'. Refute it at one input. -/
def bitsPutsWrong : ChangeSpec := { name := "bitsPuts", fn := fun _ => fun
  | [d1, d2, d3] => { results := [.lit (.bool false)], args := [d1, d2, d3] }
  | _ => none }
def BitsPutsWrongFalsely : Prop := bitsPutsRow.holds Try.pinned (OpenSpec.ofChange bitsPutsWrong)

/-- 'caponierlaw01.BitsOnes': WHATEVER THE INPUT: true; the input reads as it did. -/
def bitsOnesSpec : ChangeSpec := { name := "bitsOnes", fn := fun _ => fun
  | [d1, d2, d3] => { results := [.lit (.bool true)], args := [d1, d2, d3] }
  | _ => none }
def bitsOnesRow : OpenClaim := { program := "ytldpmehcpiamlaa", sum := "3ceaef2fe4531b513fecc2771aa0eb132d19dda286ce8eb6c027410ae519cbf6", func := "caponier/caponierlaw01.BitsOnes", spec := "bitsOnes", apart := false }
def BitsOnesSaid : Prop := bitsOnesRow.holds Try.pinned (OpenSpec.ofChange bitsOnesSpec)

/-- ITS FALSE NEIGHBOUR: 'it returns false'. Refute it at one input. -/
def bitsOnesWrong : ChangeSpec := { name := "bitsOnes", fn := fun _ => fun
  | [d1, d2, d3] => { results := [.lit (.bool false)], args := [d1, d2, d3] }
  | _ => none }
def BitsOnesWrongFalsely : Prop := bitsOnesRow.holds Try.pinned (OpenSpec.ofChange bitsOnesWrong)

/-- 'caponierlaw01.BitsBytes': WHATEVER THE INPUT: true; the input reads as it did. -/
def bitsBytesSpec : ChangeSpec := { name := "bitsBytes", fn := fun _ => fun
  | [d1, d2, d3] => { results := [.lit (.bool true)], args := [d1, d2, d3] }
  | _ => none }
def bitsBytesRow : OpenClaim := { program := "ytldpmehcpiamlaa", sum := "3ceaef2fe4531b513fecc2771aa0eb132d19dda286ce8eb6c027410ae519cbf6", func := "caponier/caponierlaw01.BitsBytes", spec := "bitsBytes", apart := false }
def BitsBytesSaid : Prop := bitsBytesRow.holds Try.pinned (OpenSpec.ofChange bitsBytesSpec)

/-- ITS FALSE NEIGHBOUR: 'it returns false'. Refute it at one input. -/
def bitsBytesWrong : ChangeSpec := { name := "bitsBytes", fn := fun _ => fun
  | [d1, d2, d3] => { results := [.lit (.bool false)], args := [d1, d2, d3] }
  | _ => none }
def BitsBytesWrongFalsely : Prop := bitsBytesRow.holds Try.pinned (OpenSpec.ofChange bitsBytesWrong)

/-- 'caponierlaw01.BitsRows': WHATEVER THE INPUT: true; the input reads as it did. -/
def bitsRowsSpec : ChangeSpec := { name := "bitsRows", fn := fun _ => fun
  | [d1, d2, d3] => { results := [.lit (.bool true)], args := [d1, d2, d3] }
  | _ => none }
def bitsRowsRow : OpenClaim := { program := "ytldpmehcpiamlaa", sum := "3ceaef2fe4531b513fecc2771aa0eb132d19dda286ce8eb6c027410ae519cbf6", func := "caponier/caponierlaw01.BitsRows", spec := "bitsRows", apart := false }
def BitsRowsSaid : Prop := bitsRowsRow.holds Try.pinned (OpenSpec.ofChange bitsRowsSpec)

/-- ITS FALSE NEIGHBOUR: 'it returns false'. Refute it at one input. -/
def bitsRowsWrong : ChangeSpec := { name := "bitsRows", fn := fun _ => fun
  | [d1, d2, d3] => { results := [.lit (.bool false)], args := [d1, d2, d3] }
  | _ => none }
def BitsRowsWrongFalsely : Prop := bitsRowsRow.holds Try.pinned (OpenSpec.ofChange bitsRowsWrong)

/- THE SECOND FORM. 'bulk': how many values and letters a reading holds, each counted each time it is reached (what is shared counts as often as it is met; a slice's spare places count too). A statement '..UptoSaid' is the law's where the arguments, and the package variables that the reading takes, are together of bulk at most 1048576: NARROWER than '..Said'. Prove '..Said' where nothing that the law and all that it calls make is longer than what came in: it says more and counts as full. Else prove '..UptoSaid'. A law counts once. -/
mutual
def uptoBulk {H : Type} : DataW H → Nat
  | .lit (.string bytes) => bytes.length + 1
  | .lit _ => 1
  | .nil => 1
  | .ptr d => uptoBulk d + 1
  | .slice elems spare => uptoBulkAll elems + uptoBulkAll spare + 1
  | .agg parts => uptoBulkAll parts + 1
  | .iface _ d => uptoBulk d + 1
  | .map entries => uptoBulkEntries entries + 1
  | .held _ => 1
def uptoBulkAll {H : Type} : List (DataW H) → Nat
  | [] => 0
  | d :: r => uptoBulk d + uptoBulkAll r
def uptoBulkEntries {H : Type} : List (Lit × DataW H) → Nat
  | [] => 0
  | x :: r => uptoBulkEntry x + uptoBulkEntries r
def uptoBulkEntry {H : Type} : Lit × DataW H → Nat
  | (.string bytes, d) => bytes.length + uptoBulk d + 1
  | (_, d) => uptoBulk d + 1
 end
def uptoSmall : (H : Type) → List (DataW H) → Bool := fun _ ds => decide (uptoBulkAll ds ≤ 1048576)
def OpenSpec.upto (s : _root_.Go.ChangeSpec) : _root_.Go.OpenSpec := { _root_.Go.OpenSpec.ofChange s with cond := some uptoSmall }

/-- 'caponierlaw01.BitsParts', WHERE WHAT IT READS IS OF BULK AT MOST 1048576: true; the input reads as it did. -/
def bitsPartsUptoRow : OpenClaim := { program := "ytldpmehcpiamlaa", sum := "3ceaef2fe4531b513fecc2771aa0eb132d19dda286ce8eb6c027410ae519cbf6", func := "caponier/caponierlaw01.BitsParts", spec := "bitsParts", apart := false, narrowed := true }
def BitsPartsUptoSaid : Prop := bitsPartsUptoRow.holds Try.pinned (OpenSpec.upto bitsPartsSpec)

/-- 'caponierlaw01.BitsSigns', WHERE WHAT IT READS IS OF BULK AT MOST 1048576: true; the input reads as it did. -/
def bitsSignsUptoRow : OpenClaim := { program := "ytldpmehcpiamlaa", sum := "3ceaef2fe4531b513fecc2771aa0eb132d19dda286ce8eb6c027410ae519cbf6", func := "caponier/caponierlaw01.BitsSigns", spec := "bitsSigns", apart := false, narrowed := true }
def BitsSignsUptoSaid : Prop := bitsSignsUptoRow.holds Try.pinned (OpenSpec.upto bitsSignsSpec)

/-- 'caponierlaw01.BitsHalves', WHERE WHAT IT READS IS OF BULK AT MOST 1048576: true; the input reads as it did. -/
def bitsHalvesUptoRow : OpenClaim := { program := "ytldpmehcpiamlaa", sum := "3ceaef2fe4531b513fecc2771aa0eb132d19dda286ce8eb6c027410ae519cbf6", func := "caponier/caponierlaw01.BitsHalves", spec := "bitsHalves", apart := false, narrowed := true }
def BitsHalvesUptoSaid : Prop := bitsHalvesUptoRow.holds Try.pinned (OpenSpec.upto bitsHalvesSpec)

/-- 'caponierlaw01.BitsRange', WHERE WHAT IT READS IS OF BULK AT MOST 1048576: true; the input reads as it did. -/
def bitsRangeUptoRow : OpenClaim := { program := "ytldpmehcpiamlaa", sum := "3ceaef2fe4531b513fecc2771aa0eb132d19dda286ce8eb6c027410ae519cbf6", func := "caponier/caponierlaw01.BitsRange", spec := "bitsRange", apart := false, narrowed := true }
def BitsRangeUptoSaid : Prop := bitsRangeUptoRow.holds Try.pinned (OpenSpec.upto bitsRangeSpec)

/-- 'caponierlaw01.BitsPuts', WHERE WHAT IT READS IS OF BULK AT MOST 1048576: true; the input reads as it did. -/
def bitsPutsUptoRow : OpenClaim := { program := "ytldpmehcpiamlaa", sum := "3ceaef2fe4531b513fecc2771aa0eb132d19dda286ce8eb6c027410ae519cbf6", func := "caponier/caponierlaw01.BitsPuts", spec := "bitsPuts", apart := false, narrowed := true }
def BitsPutsUptoSaid : Prop := bitsPutsUptoRow.holds Try.pinned (OpenSpec.upto bitsPutsSpec)

/-- 'caponierlaw01.BitsOnes', WHERE WHAT IT READS IS OF BULK AT MOST 1048576: true; the input reads as it did. -/
def bitsOnesUptoRow : OpenClaim := { program := "ytldpmehcpiamlaa", sum := "3ceaef2fe4531b513fecc2771aa0eb132d19dda286ce8eb6c027410ae519cbf6", func := "caponier/caponierlaw01.BitsOnes", spec := "bitsOnes", apart := false, narrowed := true }
def BitsOnesUptoSaid : Prop := bitsOnesUptoRow.holds Try.pinned (OpenSpec.upto bitsOnesSpec)

/-- 'caponierlaw01.BitsBytes', WHERE WHAT IT READS IS OF BULK AT MOST 1048576: true; the input reads as it did. -/
def bitsBytesUptoRow : OpenClaim := { program := "ytldpmehcpiamlaa", sum := "3ceaef2fe4531b513fecc2771aa0eb132d19dda286ce8eb6c027410ae519cbf6", func := "caponier/caponierlaw01.BitsBytes", spec := "bitsBytes", apart := false, narrowed := true }
def BitsBytesUptoSaid : Prop := bitsBytesUptoRow.holds Try.pinned (OpenSpec.upto bitsBytesSpec)

/-- 'caponierlaw01.BitsRows', WHERE WHAT IT READS IS OF BULK AT MOST 1048576: true; the input reads as it did. -/
def bitsRowsUptoRow : OpenClaim := { program := "ytldpmehcpiamlaa", sum := "3ceaef2fe4531b513fecc2771aa0eb132d19dda286ce8eb6c027410ae519cbf6", func := "caponier/caponierlaw01.BitsRows", spec := "bitsRows", apart := false, narrowed := true }
def BitsRowsUptoSaid : Prop := bitsRowsUptoRow.holds Try.pinned (OpenSpec.upto bitsRowsSpec)

end Rows
end Go.Proofs.Ytldpmehcpiamlaa
