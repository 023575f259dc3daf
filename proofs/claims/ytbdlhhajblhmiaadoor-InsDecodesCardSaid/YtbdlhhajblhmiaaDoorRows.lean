/-
  NARROWER THAN 'FOR EVERY INPUT', by the rows' own cells (each row's printed sentence says how): InsEncodes: laid · InsDecodes: laid · InsApart: laid · InsFields: laid · InsForms: laid · InsBranches: laid.
  DERIVED. THE GIVEN ROWS OF THIS SEAT. 6 by the template 'for every input the law returns true; each argument reads behind the call as it read before'; 0 by the template 'total and deterministic' (their statements: YtbdlhhajblhmiaaDoorTotals.lean).
  GIVEN WITH THE SEED: the statements are not yours to turn. If you find one false, say at which input.
  Laid BY PROGRAM, IN A SANDBOX (cutbox-rows.mjs): the forced cells as the released guide's own fill.sh prints them over the translation 48191b5a5aa69979… (all of the seat's roots in one cut). By AI agents, Wed Nov 11 2026. No macro, syntax, notation, axiom, sorry.
-/
import Derived.Test.YtbdlhhajblhmiaaDoorChecked
import GoSem.Claim
import GoSem.ClaimJoined
import GoSem.ClaimMapViews
import Derived.JoinedTies
import Derived.KernelRfl
namespace Go.Proofs.YtbdlhhajblhmiaaDoor
/- THE CELL 'sum', in the pinned program and in every row, IS THE sha256 OF THE DUMP (.gsa) THAT YtbdlhhajblhmiaaDoorProg.lean LOADS. Nothing in Lean hashes anything: it is a label: what it is worth is what the hold of that sum in a sandbox is worth. -/
noncomputable def Tryd.pinned : Pinned := { name := "ytbdlhhajblhmiaadoor", sum := "48191b5a5aa69979a0c79fb0c11962b04a11d02edf88ccf123ef99cb90182f88", checked := Tryd.checked }
namespace Rows
def none {H : Type} : Left H := { results := [], args := [] }

/- WHAT THE LISTED PACKAGE-LEVEL VARIABLES READ AS WHEN THE CALL BEGINS. Each datum BY PROGRAM (the guide's laid-datum.mjs) off the statement by which the dump's own 'gosem.cut.vars' lays the variable. In a bare row this is a premise. The card (YtbdlhhajblhmiaaDoorCards.lean) ties it to the program's text. -/
def laid_caponier_ins_rows {H : Type} : DataW H := .agg [.agg [.lit (.string [82]), .agg [.lit (.int .u64 51), .lit (.int .u64 0), .lit (.int .u64 0)]], .agg [.lit (.string [82]), .agg [.lit (.int .u64 51), .lit (.int .u64 0), .lit (.int .u64 32)]], .agg [.lit (.string [82]), .agg [.lit (.int .u64 51), .lit (.int .u64 1), .lit (.int .u64 0)]], .agg [.lit (.string [82]), .agg [.lit (.int .u64 51), .lit (.int .u64 2), .lit (.int .u64 0)]], .agg [.lit (.string [82]), .agg [.lit (.int .u64 51), .lit (.int .u64 3), .lit (.int .u64 0)]], .agg [.lit (.string [82]), .agg [.lit (.int .u64 51), .lit (.int .u64 4), .lit (.int .u64 0)]], .agg [.lit (.string [82]), .agg [.lit (.int .u64 51), .lit (.int .u64 5), .lit (.int .u64 0)]], .agg [.lit (.string [82]), .agg [.lit (.int .u64 51), .lit (.int .u64 5), .lit (.int .u64 32)]], .agg [.lit (.string [82]), .agg [.lit (.int .u64 51), .lit (.int .u64 6), .lit (.int .u64 0)]], .agg [.lit (.string [82]), .agg [.lit (.int .u64 51), .lit (.int .u64 7), .lit (.int .u64 0)]], .agg [.lit (.string [82]), .agg [.lit (.int .u64 51), .lit (.int .u64 0), .lit (.int .u64 1)]], .agg [.lit (.string [82]), .agg [.lit (.int .u64 51), .lit (.int .u64 3), .lit (.int .u64 1)]], .agg [.lit (.string [82]), .agg [.lit (.int .u64 51), .lit (.int .u64 4), .lit (.int .u64 1)]], .agg [.lit (.string [82]), .agg [.lit (.int .u64 51), .lit (.int .u64 5), .lit (.int .u64 1)]], .agg [.lit (.string [82]), .agg [.lit (.int .u64 51), .lit (.int .u64 6), .lit (.int .u64 1)]], .agg [.lit (.string [82]), .agg [.lit (.int .u64 51), .lit (.int .u64 7), .lit (.int .u64 1)]], .agg [.lit (.string [73]), .agg [.lit (.int .u64 19), .lit (.int .u64 0), .lit (.int .u64 0)]], .agg [.lit (.string [73]), .agg [.lit (.int .u64 19), .lit (.int .u64 2), .lit (.int .u64 0)]], .agg [.lit (.string [73]), .agg [.lit (.int .u64 19), .lit (.int .u64 3), .lit (.int .u64 0)]], .agg [.lit (.string [73]), .agg [.lit (.int .u64 19), .lit (.int .u64 4), .lit (.int .u64 0)]], .agg [.lit (.string [73]), .agg [.lit (.int .u64 19), .lit (.int .u64 6), .lit (.int .u64 0)]], .agg [.lit (.string [73]), .agg [.lit (.int .u64 19), .lit (.int .u64 7), .lit (.int .u64 0)]], .agg [.lit (.string [73]), .agg [.lit (.int .u64 19), .lit (.int .u64 1), .lit (.int .u64 0)]], .agg [.lit (.string [73]), .agg [.lit (.int .u64 19), .lit (.int .u64 5), .lit (.int .u64 0)]], .agg [.lit (.string [73]), .agg [.lit (.int .u64 19), .lit (.int .u64 5), .lit (.int .u64 16)]], .agg [.lit (.string [73]), .agg [.lit (.int .u64 3), .lit (.int .u64 0), .lit (.int .u64 0)]], .agg [.lit (.string [73]), .agg [.lit (.int .u64 3), .lit (.int .u64 4), .lit (.int .u64 0)]], .agg [.lit (.string [73]), .agg [.lit (.int .u64 3), .lit (.int .u64 2), .lit (.int .u64 0)]], .agg [.lit (.string [73]), .agg [.lit (.int .u64 3), .lit (.int .u64 3), .lit (.int .u64 0)]], .agg [.lit (.string [83]), .agg [.lit (.int .u64 35), .lit (.int .u64 0), .lit (.int .u64 0)]], .agg [.lit (.string [83]), .agg [.lit (.int .u64 35), .lit (.int .u64 2), .lit (.int .u64 0)]], .agg [.lit (.string [83]), .agg [.lit (.int .u64 35), .lit (.int .u64 3), .lit (.int .u64 0)]], .agg [.lit (.string [66]), .agg [.lit (.int .u64 99), .lit (.int .u64 0), .lit (.int .u64 0)]], .agg [.lit (.string [66]), .agg [.lit (.int .u64 99), .lit (.int .u64 1), .lit (.int .u64 0)]], .agg [.lit (.string [66]), .agg [.lit (.int .u64 99), .lit (.int .u64 4), .lit (.int .u64 0)]], .agg [.lit (.string [66]), .agg [.lit (.int .u64 99), .lit (.int .u64 5), .lit (.int .u64 0)]], .agg [.lit (.string [66]), .agg [.lit (.int .u64 99), .lit (.int .u64 6), .lit (.int .u64 0)]], .agg [.lit (.string [66]), .agg [.lit (.int .u64 99), .lit (.int .u64 7), .lit (.int .u64 0)]], .agg [.lit (.string [85]), .agg [.lit (.int .u64 55), .lit (.int .u64 0), .lit (.int .u64 0)]], .agg [.lit (.string [85]), .agg [.lit (.int .u64 23), .lit (.int .u64 0), .lit (.int .u64 0)]], .agg [.lit (.string [74]), .agg [.lit (.int .u64 111), .lit (.int .u64 0), .lit (.int .u64 0)]], .agg [.lit (.string [73]), .agg [.lit (.int .u64 103), .lit (.int .u64 0), .lit (.int .u64 0)]], .agg [.lit (.string [69]), .agg [.lit (.int .u64 115), .lit (.int .u64 0), .lit (.int .u64 0)]]]

/-- 'caponierlaw02.InsEncodes': WHATEVER THE INPUT: true; the input reads as it did. -/
def insEncodesSpec : ChangeSpec := { name := "insEncodes", fn := fun _ => fun
  | [d] => { results := [.lit (.bool true)], args := [d] }
  | _ => none }
def insEncodesRow : OpenClaim := { program := "ytbdlhhajblhmiaadoor", sum := "48191b5a5aa69979a0c79fb0c11962b04a11d02edf88ccf123ef99cb90182f88", func := "caponier/caponierlaw02.InsEncodes", spec := "insEncodes", unfollowed := true, recurses := true, named := ["caponier/ins.rows"], plainKeys := false, apart := false, laid := [("caponier/ins.rows", laid_caponier_ins_rows)] }
def InsEncodesSaid : Prop := insEncodesRow.holds Tryd.pinned (OpenSpec.ofChange insEncodesSpec)

/-- ITS FALSE NEIGHBOUR: 'it returns false'. Refute it at one input. -/
def insEncodesWrong : ChangeSpec := { name := "insEncodes", fn := fun _ => fun
  | [d] => { results := [.lit (.bool false)], args := [d] }
  | _ => none }
def InsEncodesWrongFalsely : Prop := insEncodesRow.holds Tryd.pinned (OpenSpec.ofChange insEncodesWrong)

/-- 'caponierlaw02.InsDecodes': WHATEVER THE INPUT: true; the input reads as it did. -/
def insDecodesSpec : ChangeSpec := { name := "insDecodes", fn := fun _ => fun
  | [d] => { results := [.lit (.bool true)], args := [d] }
  | _ => none }
def insDecodesRow : OpenClaim := { program := "ytbdlhhajblhmiaadoor", sum := "48191b5a5aa69979a0c79fb0c11962b04a11d02edf88ccf123ef99cb90182f88", func := "caponier/caponierlaw02.InsDecodes", spec := "insDecodes", unfollowed := true, recurses := true, named := ["caponier/ins.rows"], plainKeys := false, apart := false, laid := [("caponier/ins.rows", laid_caponier_ins_rows)] }
def InsDecodesSaid : Prop := insDecodesRow.holds Tryd.pinned (OpenSpec.ofChange insDecodesSpec)

/-- ITS FALSE NEIGHBOUR: 'it returns false'. Refute it at one input. -/
def insDecodesWrong : ChangeSpec := { name := "insDecodes", fn := fun _ => fun
  | [d] => { results := [.lit (.bool false)], args := [d] }
  | _ => none }
def InsDecodesWrongFalsely : Prop := insDecodesRow.holds Tryd.pinned (OpenSpec.ofChange insDecodesWrong)

/-- 'caponierlaw02.InsApart': WHATEVER THE INPUT: true; the input reads as it did. -/
def insApartSpec : ChangeSpec := { name := "insApart", fn := fun _ => fun
  | [d1, d2] => { results := [.lit (.bool true)], args := [d1, d2] }
  | _ => none }
def insApartRow : OpenClaim := { program := "ytbdlhhajblhmiaadoor", sum := "48191b5a5aa69979a0c79fb0c11962b04a11d02edf88ccf123ef99cb90182f88", func := "caponier/caponierlaw02.InsApart", spec := "insApart", unfollowed := true, recurses := true, named := ["caponier/ins.rows"], plainKeys := false, apart := false, laid := [("caponier/ins.rows", laid_caponier_ins_rows)] }
def InsApartSaid : Prop := insApartRow.holds Tryd.pinned (OpenSpec.ofChange insApartSpec)

/-- ITS FALSE NEIGHBOUR: 'it returns false'. Refute it at one input. -/
def insApartWrong : ChangeSpec := { name := "insApart", fn := fun _ => fun
  | [d1, d2] => { results := [.lit (.bool false)], args := [d1, d2] }
  | _ => none }
def InsApartWrongFalsely : Prop := insApartRow.holds Tryd.pinned (OpenSpec.ofChange insApartWrong)

/-- 'caponierlaw02.InsFields': WHATEVER THE INPUT: true; the input reads as it did. -/
def insFieldsSpec : ChangeSpec := { name := "insFields", fn := fun _ => fun
  | [d] => { results := [.lit (.bool true)], args := [d] }
  | _ => none }
def insFieldsRow : OpenClaim := { program := "ytbdlhhajblhmiaadoor", sum := "48191b5a5aa69979a0c79fb0c11962b04a11d02edf88ccf123ef99cb90182f88", func := "caponier/caponierlaw02.InsFields", spec := "insFields", unfollowed := true, recurses := true, named := ["caponier/ins.rows"], plainKeys := false, apart := false, laid := [("caponier/ins.rows", laid_caponier_ins_rows)] }
def InsFieldsSaid : Prop := insFieldsRow.holds Tryd.pinned (OpenSpec.ofChange insFieldsSpec)

/-- ITS FALSE NEIGHBOUR: 'it returns false'. Refute it at one input. -/
def insFieldsWrong : ChangeSpec := { name := "insFields", fn := fun _ => fun
  | [d] => { results := [.lit (.bool false)], args := [d] }
  | _ => none }
def InsFieldsWrongFalsely : Prop := insFieldsRow.holds Tryd.pinned (OpenSpec.ofChange insFieldsWrong)

/-- 'caponierlaw02.InsForms': WHATEVER THE INPUT: true; the input reads as it did. -/
def insFormsSpec : ChangeSpec := { name := "insForms", fn := fun _ => fun
  | [d1, d2] => { results := [.lit (.bool true)], args := [d1, d2] }
  | _ => none }
def insFormsRow : OpenClaim := { program := "ytbdlhhajblhmiaadoor", sum := "48191b5a5aa69979a0c79fb0c11962b04a11d02edf88ccf123ef99cb90182f88", func := "caponier/caponierlaw02.InsForms", spec := "insForms", unfollowed := true, recurses := true, named := ["caponier/ins.rows"], plainKeys := false, apart := false, laid := [("caponier/ins.rows", laid_caponier_ins_rows)] }
def InsFormsSaid : Prop := insFormsRow.holds Tryd.pinned (OpenSpec.ofChange insFormsSpec)

/-- ITS FALSE NEIGHBOUR: 'it returns false'. Refute it at one input. -/
def insFormsWrong : ChangeSpec := { name := "insForms", fn := fun _ => fun
  | [d1, d2] => { results := [.lit (.bool false)], args := [d1, d2] }
  | _ => none }
def InsFormsWrongFalsely : Prop := insFormsRow.holds Tryd.pinned (OpenSpec.ofChange insFormsWrong)

/-- 'caponierlaw02.InsBranches': WHATEVER THE INPUT: true; the input reads as it did. -/
def insBranchesSpec : ChangeSpec := { name := "insBranches", fn := fun _ => fun
  | [d1, d2, d3] => { results := [.lit (.bool true)], args := [d1, d2, d3] }
  | _ => none }
def insBranchesRow : OpenClaim := { program := "ytbdlhhajblhmiaadoor", sum := "48191b5a5aa69979a0c79fb0c11962b04a11d02edf88ccf123ef99cb90182f88", func := "caponier/caponierlaw02.InsBranches", spec := "insBranches", unfollowed := true, recurses := true, named := ["caponier/ins.rows"], plainKeys := false, apart := false, laid := [("caponier/ins.rows", laid_caponier_ins_rows)] }
def InsBranchesSaid : Prop := insBranchesRow.holds Tryd.pinned (OpenSpec.ofChange insBranchesSpec)

/-- ITS FALSE NEIGHBOUR: 'it returns false'. Refute it at one input. -/
def insBranchesWrong : ChangeSpec := { name := "insBranches", fn := fun _ => fun
  | [d1, d2, d3] => { results := [.lit (.bool false)], args := [d1, d2, d3] }
  | _ => none }
def InsBranchesWrongFalsely : Prop := insBranchesRow.holds Tryd.pinned (OpenSpec.ofChange insBranchesWrong)

/- THE SECOND FORM. 'bulk': how many values and letters a reading holds, each counted each time it is reached (what is shared counts as often as it is met; a slice's spare places count too). A statement '..UptoSaid' is the law's where the arguments, and the package variables that the reading takes, are together of bulk at most 1048576: NARROWER than '..Said'. Prove '..Said' where nothing that the law and all that it calls make is longer than what came in: it says more and counts as full. Else prove '..UptoSaid'. A law counts once. -/
mutual
def uptoBulk {H : Type} : DataW H → Nat
  | .lit (.string bytes) => bytes.length + 1
  | .lit _ => 1
  | .nil => 1
  | .ptr d => uptoBulk d + 1
  | .slice elems spare => uptoBulkAll elems + uptoBulkAll spare + 1
  | .agg parts => uptoBulkAll parts + 1
  | .iface _ d => uptoBulk d + 1
  | .map entries => uptoBulkEntries entries + 1
  | .held _ => 1
def uptoBulkAll {H : Type} : List (DataW H) → Nat
  | [] => 0
  | d :: r => uptoBulk d + uptoBulkAll r
def uptoBulkEntries {H : Type} : List (Lit × DataW H) → Nat
  | [] => 0
  | x :: r => uptoBulkEntry x + uptoBulkEntries r
def uptoBulkEntry {H : Type} : Lit × DataW H → Nat
  | (.string bytes, d) => bytes.length + uptoBulk d + 1
  | (_, d) => uptoBulk d + 1
 end
def uptoSmall : (H : Type) → List (DataW H) → Bool := fun _ ds => decide (uptoBulkAll ds ≤ 1048576)
def OpenSpec.upto (s : _root_.Go.ChangeSpec) : _root_.Go.OpenSpec := { _root_.Go.OpenSpec.ofChange s with cond := some uptoSmall }

/-- 'caponierlaw02.InsEncodes', WHERE WHAT IT READS IS OF BULK AT MOST 1048576: true; the input reads as it did. -/
def insEncodesUptoRow : OpenClaim := { program := "ytbdlhhajblhmiaadoor", sum := "48191b5a5aa69979a0c79fb0c11962b04a11d02edf88ccf123ef99cb90182f88", func := "caponier/caponierlaw02.InsEncodes", spec := "insEncodes", unfollowed := true, recurses := true, named := ["caponier/ins.rows"], plainKeys := false, apart := false, laid := [("caponier/ins.rows", laid_caponier_ins_rows)], narrowed := true }
def InsEncodesUptoSaid : Prop := insEncodesUptoRow.holds Tryd.pinned (OpenSpec.upto insEncodesSpec)

/-- 'caponierlaw02.InsDecodes', WHERE WHAT IT READS IS OF BULK AT MOST 1048576: true; the input reads as it did. -/
def insDecodesUptoRow : OpenClaim := { program := "ytbdlhhajblhmiaadoor", sum := "48191b5a5aa69979a0c79fb0c11962b04a11d02edf88ccf123ef99cb90182f88", func := "caponier/caponierlaw02.InsDecodes", spec := "insDecodes", unfollowed := true, recurses := true, named := ["caponier/ins.rows"], plainKeys := false, apart := false, laid := [("caponier/ins.rows", laid_caponier_ins_rows)], narrowed := true }
def InsDecodesUptoSaid : Prop := insDecodesUptoRow.holds Tryd.pinned (OpenSpec.upto insDecodesSpec)

/-- 'caponierlaw02.InsApart', WHERE WHAT IT READS IS OF BULK AT MOST 1048576: true; the input reads as it did. -/
def insApartUptoRow : OpenClaim := { program := "ytbdlhhajblhmiaadoor", sum := "48191b5a5aa69979a0c79fb0c11962b04a11d02edf88ccf123ef99cb90182f88", func := "caponier/caponierlaw02.InsApart", spec := "insApart", unfollowed := true, recurses := true, named := ["caponier/ins.rows"], plainKeys := false, apart := false, laid := [("caponier/ins.rows", laid_caponier_ins_rows)], narrowed := true }
def InsApartUptoSaid : Prop := insApartUptoRow.holds Tryd.pinned (OpenSpec.upto insApartSpec)

/-- 'caponierlaw02.InsFields', WHERE WHAT IT READS IS OF BULK AT MOST 1048576: true; the input reads as it did. -/
def insFieldsUptoRow : OpenClaim := { program := "ytbdlhhajblhmiaadoor", sum := "48191b5a5aa69979a0c79fb0c11962b04a11d02edf88ccf123ef99cb90182f88", func := "caponier/caponierlaw02.InsFields", spec := "insFields", unfollowed := true, recurses := true, named := ["caponier/ins.rows"], plainKeys := false, apart := false, laid := [("caponier/ins.rows", laid_caponier_ins_rows)], narrowed := true }
def InsFieldsUptoSaid : Prop := insFieldsUptoRow.holds Tryd.pinned (OpenSpec.upto insFieldsSpec)

/-- 'caponierlaw02.InsForms', WHERE WHAT IT READS IS OF BULK AT MOST 1048576: true; the input reads as it did. -/
def insFormsUptoRow : OpenClaim := { program := "ytbdlhhajblhmiaadoor", sum := "48191b5a5aa69979a0c79fb0c11962b04a11d02edf88ccf123ef99cb90182f88", func := "caponier/caponierlaw02.InsForms", spec := "insForms", unfollowed := true, recurses := true, named := ["caponier/ins.rows"], plainKeys := false, apart := false, laid := [("caponier/ins.rows", laid_caponier_ins_rows)], narrowed := true }
def InsFormsUptoSaid : Prop := insFormsUptoRow.holds Tryd.pinned (OpenSpec.upto insFormsSpec)

/-- 'caponierlaw02.InsBranches', WHERE WHAT IT READS IS OF BULK AT MOST 1048576: true; the input reads as it did. -/
def insBranchesUptoRow : OpenClaim := { program := "ytbdlhhajblhmiaadoor", sum := "48191b5a5aa69979a0c79fb0c11962b04a11d02edf88ccf123ef99cb90182f88", func := "caponier/caponierlaw02.InsBranches", spec := "insBranches", unfollowed := true, recurses := true, named := ["caponier/ins.rows"], plainKeys := false, apart := false, laid := [("caponier/ins.rows", laid_caponier_ins_rows)], narrowed := true }
def InsBranchesUptoSaid : Prop := insBranchesUptoRow.holds Tryd.pinned (OpenSpec.upto insBranchesSpec)

end Rows
end Go.Proofs.YtbdlhhajblhmiaaDoor
