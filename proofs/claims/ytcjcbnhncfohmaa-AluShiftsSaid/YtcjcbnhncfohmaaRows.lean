/-
  No cell of these rows narrows 'for every input' (looked for: loops, veiled, ifaces, maps, wideKeys, modest, calm, conditions, laid).
  DERIVED. THE GIVEN ROWS OF THIS SEAT. 8 by the template 'for every input the law returns true; each argument reads behind the call as it read before'; 0 by the template 'total and deterministic' (their statements: YtcjcbnhncfohmaaTotals.lean).
  GIVEN WITH THE SEED: the statements are not yours to turn. If you find one false, say at which input.
  Laid BY PROGRAM, IN A SANDBOX (cutbox-rows.mjs): the forced cells as the released guide's own fill.sh prints them over the translation 9718818c905fe826… (all of the seat's roots in one cut). By AI agents, Wed Nov 11 2026. No macro, syntax, notation, axiom, sorry.
-/
import Derived.Test.YtcjcbnhncfohmaaChecked
import GoSem.Claim
import GoSem.ClaimJoined
import GoSem.ClaimMapViews
import Derived.JoinedTies
import Derived.KernelRfl
namespace Go.Proofs.Ytcjcbnhncfohmaa
/- THE CELL 'sum', in the pinned program and in every row, IS THE sha256 OF THE DUMP (.gsa) THAT YtcjcbnhncfohmaaProg.lean LOADS. Nothing in Lean hashes anything: it is a label: what it is worth is what the hold of that sum in a sandbox is worth. -/
noncomputable def Try.pinned : Pinned := { name := "ytcjcbnhncfohmaa", sum := "9718818c905fe8263fff5ad7adfd1326a1a09405c58946529692ff3c671213c6", checked := Try.checked }
namespace Rows
def none {H : Type} : Left H := { results := [], args := [] }

/-- 'caponierlaw03.AluReckons': WHATEVER THE INPUT: true; the input reads as it did. -/
def aluReckonsSpec : ChangeSpec := { name := "aluReckons", fn := fun _ => fun
  | [d1, d2, d3] => { results := [.lit (.bool true)], args := [d1, d2, d3] }
  | _ => none }
def aluReckonsRow : OpenClaim := { program := "ytcjcbnhncfohmaa", sum := "9718818c905fe8263fff5ad7adfd1326a1a09405c58946529692ff3c671213c6", func := "caponier/caponierlaw03.AluReckons", spec := "aluReckons", unfollowed := true, recurses := true, apart := false }
def AluReckonsSaid : Prop := aluReckonsRow.holds Try.pinned (OpenSpec.ofChange aluReckonsSpec)

/-- ITS FALSE NEIGHBOUR: 'it returns false'. Refute it at one input. -/
def aluReckonsWrong : ChangeSpec := { name := "aluReckons", fn := fun _ => fun
  | [d1, d2, d3] => { results := [.lit (.bool false)], args := [d1, d2, d3] }
  | _ => none }
def AluReckonsWrongFalsely : Prop := aluReckonsRow.holds Try.pinned (OpenSpec.ofChange aluReckonsWrong)

/-- 'caponierlaw03.AluDivides': WHATEVER THE INPUT: true; the input reads as it did. -/
def aluDividesSpec : ChangeSpec := { name := "aluDivides", fn := fun _ => fun
  | [d1, d2] => { results := [.lit (.bool true)], args := [d1, d2] }
  | _ => none }
def aluDividesRow : OpenClaim := { program := "ytcjcbnhncfohmaa", sum := "9718818c905fe8263fff5ad7adfd1326a1a09405c58946529692ff3c671213c6", func := "caponier/caponierlaw03.AluDivides", spec := "aluDivides", unfollowed := true, recurses := true, apart := false }
def AluDividesSaid : Prop := aluDividesRow.holds Try.pinned (OpenSpec.ofChange aluDividesSpec)

/-- ITS FALSE NEIGHBOUR: 'it returns false'. Refute it at one input. -/
def aluDividesWrong : ChangeSpec := { name := "aluDivides", fn := fun _ => fun
  | [d1, d2] => { results := [.lit (.bool false)], args := [d1, d2] }
  | _ => none }
def AluDividesWrongFalsely : Prop := aluDividesRow.holds Try.pinned (OpenSpec.ofChange aluDividesWrong)

/-- 'caponierlaw03.AluBranches': WHATEVER THE INPUT: true; the input reads as it did. -/
def aluBranchesSpec : ChangeSpec := { name := "aluBranches", fn := fun _ => fun
  | [d1, d2] => { results := [.lit (.bool true)], args := [d1, d2] }
  | _ => none }
def aluBranchesRow : OpenClaim := { program := "ytcjcbnhncfohmaa", sum := "9718818c905fe8263fff5ad7adfd1326a1a09405c58946529692ff3c671213c6", func := "caponier/caponierlaw03.AluBranches", spec := "aluBranches", unfollowed := true, recurses := true, apart := false }
def AluBranchesSaid : Prop := aluBranchesRow.holds Try.pinned (OpenSpec.ofChange aluBranchesSpec)

/-- ITS FALSE NEIGHBOUR: 'it returns false'. Refute it at one input. -/
def aluBranchesWrong : ChangeSpec := { name := "aluBranches", fn := fun _ => fun
  | [d1, d2] => { results := [.lit (.bool false)], args := [d1, d2] }
  | _ => none }
def AluBranchesWrongFalsely : Prop := aluBranchesRow.holds Try.pinned (OpenSpec.ofChange aluBranchesWrong)

/-- 'caponierlaw03.AluSums': WHATEVER THE INPUT: true; the input reads as it did. -/
def aluSumsSpec : ChangeSpec := { name := "aluSums", fn := fun _ => fun
  | [d1, d2] => { results := [.lit (.bool true)], args := [d1, d2] }
  | _ => none }
def aluSumsRow : OpenClaim := { program := "ytcjcbnhncfohmaa", sum := "9718818c905fe8263fff5ad7adfd1326a1a09405c58946529692ff3c671213c6", func := "caponier/caponierlaw03.AluSums", spec := "aluSums", unfollowed := true, recurses := true, apart := false }
def AluSumsSaid : Prop := aluSumsRow.holds Try.pinned (OpenSpec.ofChange aluSumsSpec)

/-- ITS FALSE NEIGHBOUR: 'it returns false'. Refute it at one input. -/
def aluSumsWrong : ChangeSpec := { name := "aluSums", fn := fun _ => fun
  | [d1, d2] => { results := [.lit (.bool false)], args := [d1, d2] }
  | _ => none }
def AluSumsWrongFalsely : Prop := aluSumsRow.holds Try.pinned (OpenSpec.ofChange aluSumsWrong)

/-- 'caponierlaw03.AluShifts': WHATEVER THE INPUT: true; the input reads as it did. -/
def aluShiftsSpec : ChangeSpec := { name := "aluShifts", fn := fun _ => fun
  | [d1, d2] => { results := [.lit (.bool true)], args := [d1, d2] }
  | _ => none }
def aluShiftsRow : OpenClaim := { program := "ytcjcbnhncfohmaa", sum := "9718818c905fe8263fff5ad7adfd1326a1a09405c58946529692ff3c671213c6", func := "caponier/caponierlaw03.AluShifts", spec := "aluShifts", unfollowed := true, recurses := true, apart := false }
def AluShiftsSaid : Prop := aluShiftsRow.holds Try.pinned (OpenSpec.ofChange aluShiftsSpec)

/-- ITS FALSE NEIGHBOUR: 'it returns false'. Refute it at one input. -/
def aluShiftsWrong : ChangeSpec := { name := "aluShifts", fn := fun _ => fun
  | [d1, d2] => { results := [.lit (.bool false)], args := [d1, d2] }
  | _ => none }
def AluShiftsWrongFalsely : Prop := aluShiftsRow.holds Try.pinned (OpenSpec.ofChange aluShiftsWrong)

/-- 'caponierlaw03.AluBits': WHATEVER THE INPUT: true; the input reads as it did. -/
def aluBitsSpec : ChangeSpec := { name := "aluBits", fn := fun _ => fun
  | [d1, d2, d3] => { results := [.lit (.bool true)], args := [d1, d2, d3] }
  | _ => none }
def aluBitsRow : OpenClaim := { program := "ytcjcbnhncfohmaa", sum := "9718818c905fe8263fff5ad7adfd1326a1a09405c58946529692ff3c671213c6", func := "caponier/caponierlaw03.AluBits", spec := "aluBits", unfollowed := true, recurses := true, apart := false }
def AluBitsSaid : Prop := aluBitsRow.holds Try.pinned (OpenSpec.ofChange aluBitsSpec)

/-- ITS FALSE NEIGHBOUR: 'it returns false'. Refute it at one input. -/
def aluBitsWrong : ChangeSpec := { name := "aluBits", fn := fun _ => fun
  | [d1, d2, d3] => { results := [.lit (.bool false)], args := [d1, d2, d3] }
  | _ => none }
def AluBitsWrongFalsely : Prop := aluBitsRow.holds Try.pinned (OpenSpec.ofChange aluBitsWrong)

/-- 'caponierlaw03.AluOrder': WHATEVER THE INPUT: true; the input reads as it did. -/
def aluOrderSpec : ChangeSpec := { name := "aluOrder", fn := fun _ => fun
  | [d1, d2, d3] => { results := [.lit (.bool true)], args := [d1, d2, d3] }
  | _ => none }
def aluOrderRow : OpenClaim := { program := "ytcjcbnhncfohmaa", sum := "9718818c905fe8263fff5ad7adfd1326a1a09405c58946529692ff3c671213c6", func := "caponier/caponierlaw03.AluOrder", spec := "aluOrder", unfollowed := true, recurses := true, apart := false }
def AluOrderSaid : Prop := aluOrderRow.holds Try.pinned (OpenSpec.ofChange aluOrderSpec)

/-- ITS FALSE NEIGHBOUR: 'it returns false'. Refute it at one input. -/
def aluOrderWrong : ChangeSpec := { name := "aluOrder", fn := fun _ => fun
  | [d1, d2, d3] => { results := [.lit (.bool false)], args := [d1, d2, d3] }
  | _ => none }
def AluOrderWrongFalsely : Prop := aluOrderRow.holds Try.pinned (OpenSpec.ofChange aluOrderWrong)

/-- 'caponierlaw03.AluMul': WHATEVER THE INPUT: true; the input reads as it did. -/
def aluMulSpec : ChangeSpec := { name := "aluMul", fn := fun _ => fun
  | [d1, d2, d3] => { results := [.lit (.bool true)], args := [d1, d2, d3] }
  | _ => none }
def aluMulRow : OpenClaim := { program := "ytcjcbnhncfohmaa", sum := "9718818c905fe8263fff5ad7adfd1326a1a09405c58946529692ff3c671213c6", func := "caponier/caponierlaw03.AluMul", spec := "aluMul", unfollowed := true, recurses := true, apart := false }
def AluMulSaid : Prop := aluMulRow.holds Try.pinned (OpenSpec.ofChange aluMulSpec)

/-- ITS FALSE NEIGHBOUR: 'it returns false'. Refute it at one input. -/
def aluMulWrong : ChangeSpec := { name := "aluMul", fn := fun _ => fun
  | [d1, d2, d3] => { results := [.lit (.bool false)], args := [d1, d2, d3] }
  | _ => none }
def AluMulWrongFalsely : Prop := aluMulRow.holds Try.pinned (OpenSpec.ofChange aluMulWrong)

/- THE SECOND FORM. 'bulk': how many values and letters a reading holds, each counted each time it is reached (what is shared counts as often as it is met; a slice's spare places count too). A statement '..UptoSaid' is the law's where the arguments, and the package variables that the reading takes, are together of bulk at most 1048576: NARROWER than '..Said'. Prove '..Said' where nothing that the law and all that it calls make is longer than what came in: it says more and counts as full. Else prove '..UptoSaid'. A law counts once. -/
mutual
def uptoBulk {H : Type} : DataW H → Nat
  | .lit (.string bytes) => bytes.length + 1
  | .lit _ => 1
  | .nil => 1
  | .ptr d => uptoBulk d + 1
  | .slice elems spare => uptoBulkAll elems + uptoBulkAll spare + 1
  | .agg parts => uptoBulkAll parts + 1
  | .iface _ d => uptoBulk d + 1
  | .map entries => uptoBulkEntries entries + 1
  | .held _ => 1
def uptoBulkAll {H : Type} : List (DataW H) → Nat
  | [] => 0
  | d :: r => uptoBulk d + uptoBulkAll r
def uptoBulkEntries {H : Type} : List (Lit × DataW H) → Nat
  | [] => 0
  | x :: r => uptoBulkEntry x + uptoBulkEntries r
def uptoBulkEntry {H : Type} : Lit × DataW H → Nat
  | (.string bytes, d) => bytes.length + uptoBulk d + 1
  | (_, d) => uptoBulk d + 1
 end
def uptoSmall : (H : Type) → List (DataW H) → Bool := fun _ ds => decide (uptoBulkAll ds ≤ 1048576)
def OpenSpec.upto (s : _root_.Go.ChangeSpec) : _root_.Go.OpenSpec := { _root_.Go.OpenSpec.ofChange s with cond := some uptoSmall }

/-- 'caponierlaw03.AluReckons', WHERE WHAT IT READS IS OF BULK AT MOST 1048576: true; the input reads as it did. -/
def aluReckonsUptoRow : OpenClaim := { program := "ytcjcbnhncfohmaa", sum := "9718818c905fe8263fff5ad7adfd1326a1a09405c58946529692ff3c671213c6", func := "caponier/caponierlaw03.AluReckons", spec := "aluReckons", unfollowed := true, recurses := true, apart := false, narrowed := true }
def AluReckonsUptoSaid : Prop := aluReckonsUptoRow.holds Try.pinned (OpenSpec.upto aluReckonsSpec)

/-- 'caponierlaw03.AluDivides', WHERE WHAT IT READS IS OF BULK AT MOST 1048576: true; the input reads as it did. -/
def aluDividesUptoRow : OpenClaim := { program := "ytcjcbnhncfohmaa", sum := "9718818c905fe8263fff5ad7adfd1326a1a09405c58946529692ff3c671213c6", func := "caponier/caponierlaw03.AluDivides", spec := "aluDivides", unfollowed := true, recurses := true, apart := false, narrowed := true }
def AluDividesUptoSaid : Prop := aluDividesUptoRow.holds Try.pinned (OpenSpec.upto aluDividesSpec)

/-- 'caponierlaw03.AluBranches', WHERE WHAT IT READS IS OF BULK AT MOST 1048576: true; the input reads as it did. -/
def aluBranchesUptoRow : OpenClaim := { program := "ytcjcbnhncfohmaa", sum := "9718818c905fe8263fff5ad7adfd1326a1a09405c58946529692ff3c671213c6", func := "caponier/caponierlaw03.AluBranches", spec := "aluBranches", unfollowed := true, recurses := true, apart := false, narrowed := true }
def AluBranchesUptoSaid : Prop := aluBranchesUptoRow.holds Try.pinned (OpenSpec.upto aluBranchesSpec)

/-- 'caponierlaw03.AluSums', WHERE WHAT IT READS IS OF BULK AT MOST 1048576: true; the input reads as it did. -/
def aluSumsUptoRow : OpenClaim := { program := "ytcjcbnhncfohmaa", sum := "9718818c905fe8263fff5ad7adfd1326a1a09405c58946529692ff3c671213c6", func := "caponier/caponierlaw03.AluSums", spec := "aluSums", unfollowed := true, recurses := true, apart := false, narrowed := true }
def AluSumsUptoSaid : Prop := aluSumsUptoRow.holds Try.pinned (OpenSpec.upto aluSumsSpec)

/-- 'caponierlaw03.AluShifts', WHERE WHAT IT READS IS OF BULK AT MOST 1048576: true; the input reads as it did. -/
def aluShiftsUptoRow : OpenClaim := { program := "ytcjcbnhncfohmaa", sum := "9718818c905fe8263fff5ad7adfd1326a1a09405c58946529692ff3c671213c6", func := "caponier/caponierlaw03.AluShifts", spec := "aluShifts", unfollowed := true, recurses := true, apart := false, narrowed := true }
def AluShiftsUptoSaid : Prop := aluShiftsUptoRow.holds Try.pinned (OpenSpec.upto aluShiftsSpec)

/-- 'caponierlaw03.AluBits', WHERE WHAT IT READS IS OF BULK AT MOST 1048576: true; the input reads as it did. -/
def aluBitsUptoRow : OpenClaim := { program := "ytcjcbnhncfohmaa", sum := "9718818c905fe8263fff5ad7adfd1326a1a09405c58946529692ff3c671213c6", func := "caponier/caponierlaw03.AluBits", spec := "aluBits", unfollowed := true, recurses := true, apart := false, narrowed := true }
def AluBitsUptoSaid : Prop := aluBitsUptoRow.holds Try.pinned (OpenSpec.upto aluBitsSpec)

/-- 'caponierlaw03.AluOrder', WHERE WHAT IT READS IS OF BULK AT MOST 1048576: true; the input reads as it did. -/
def aluOrderUptoRow : OpenClaim := { program := "ytcjcbnhncfohmaa", sum := "9718818c905fe8263fff5ad7adfd1326a1a09405c58946529692ff3c671213c6", func := "caponier/caponierlaw03.AluOrder", spec := "aluOrder", unfollowed := true, recurses := true, apart := false, narrowed := true }
def AluOrderUptoSaid : Prop := aluOrderUptoRow.holds Try.pinned (OpenSpec.upto aluOrderSpec)

/-- 'caponierlaw03.AluMul', WHERE WHAT IT READS IS OF BULK AT MOST 1048576: true; the input reads as it did. -/
def aluMulUptoRow : OpenClaim := { program := "ytcjcbnhncfohmaa", sum := "9718818c905fe8263fff5ad7adfd1326a1a09405c58946529692ff3c671213c6", func := "caponier/caponierlaw03.AluMul", spec := "aluMul", unfollowed := true, recurses := true, apart := false, narrowed := true }
def AluMulUptoSaid : Prop := aluMulUptoRow.holds Try.pinned (OpenSpec.upto aluMulSpec)

end Rows
end Go.Proofs.Ytcjcbnhncfohmaa
