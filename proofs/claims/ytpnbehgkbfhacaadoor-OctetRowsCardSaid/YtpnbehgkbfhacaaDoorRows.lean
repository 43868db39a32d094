/-
  NARROWER THAN 'FOR EVERY INPUT', by the rows' own cells (each row's printed sentence says how): OctetFixed: laid · OctetShort: laid · FrameSeals: laid · OctetRows: laid · GapGets: laid · GapPuts: laid.
  DERIVED. THE GIVEN ROWS OF THIS SEAT. 6 by the template 'for every input the law returns true; each argument reads behind the call as it read before'; 0 by the template 'total and deterministic' (their statements: YtpnbehgkbfhacaaDoorTotals.lean).
  GIVEN WITH THE SEED: the statements are not yours to turn. If you find one false, say at which input.
  Laid BY PROGRAM, IN A SANDBOX (cutbox-rows.mjs): the forced cells as the released guide's own fill.sh prints them over the translation 8745a4bd1e869954… (all of the seat's roots in one cut). By AI agents, Wed Nov 11 2026. No macro, syntax, notation, axiom, sorry.
-/
import Derived.Test.YtpnbehgkbfhacaaDoorChecked
import GoSem.Claim
import GoSem.ClaimJoined
import GoSem.ClaimMapViews
import Derived.JoinedTies
import Derived.KernelRfl
namespace Go.Proofs.YtpnbehgkbfhacaaDoor
/- THE CELL 'sum', in the pinned program and in every row, IS THE sha256 OF THE DUMP (.gsa) THAT YtpnbehgkbfhacaaDoorProg.lean LOADS. Nothing in Lean hashes anything: it is a label: what it is worth is what the hold of that sum in a sandbox is worth. -/
noncomputable def Tryd.pinned : Pinned := { name := "ytpnbehgkbfhacaadoor", sum := "8745a4bd1e86995468cef45c0b4aec45c7f422c75d9b85452168d4b17452bd12", checked := Tryd.checked }
namespace Rows
def none {H : Type} : Left H := { results := [], args := [] }

/- WHAT THE LISTED PACKAGE-LEVEL VARIABLES READ AS WHEN THE CALL BEGINS. Each datum BY PROGRAM (the guide's laid-datum.mjs) off the statement by which the dump's own 'gosem.cut.vars' lays the variable. In a bare row this is a premise. The card (YtpnbehgkbfhacaaDoorCards.lean) ties it to the program's text. -/
def laid_errors_errorType {H : Type} : DataW H := .iface "internal/reflectlite.rtype" (.agg [.ptr (.lit (.string [101, 114, 114, 111, 114]))])

/-- 'ladinglaw01.OctetFixed': WHATEVER THE INPUT: true; the input reads as it did. -/
def octetFixedSpec : ChangeSpec := { name := "octetFixed", fn := fun _ => fun
  | [d1, d2, d3] => { results := [.lit (.bool true)], args := [d1, d2, d3] }
  | _ => none }
def octetFixedRow : OpenClaim := { program := "ytpnbehgkbfhacaadoor", sum := "8745a4bd1e86995468cef45c0b4aec45c7f422c75d9b85452168d4b17452bd12", func := "lading/ladinglaw01.OctetFixed", spec := "octetFixed", inPlace := ["internal/reflectlite.ValueOf", "(internal/reflectlite.Value).Type", "(internal/reflectlite.Value).IsNil", "internal/reflectlite.TypeOf", "(internal/reflectlite.Value).Elem", "(internal/reflectlite.Value).Set"], unfollowed := true, recurses := true, named := ["errors.errorType"], apart := false, laid := [("errors.errorType", laid_errors_errorType)] }
def OctetFixedSaid : Prop := octetFixedRow.holds Tryd.pinned (OpenSpec.ofChange octetFixedSpec)

/-- ITS FALSE NEIGHBOUR: 'it returns false'. Refute it at one input. -/
def octetFixedWrong : ChangeSpec := { name := "octetFixed", fn := fun _ => fun
  | [d1, d2, d3] => { results := [.lit (.bool false)], args := [d1, d2, d3] }
  | _ => none }
def OctetFixedWrongFalsely : Prop := octetFixedRow.holds Tryd.pinned (OpenSpec.ofChange octetFixedWrong)

/-- 'ladinglaw01.OctetShort': WHATEVER THE INPUT: true; the input reads as it did. -/
def octetShortSpec : ChangeSpec := { name := "octetShort", fn := fun _ => fun
  | [d1, d2] => { results := [.lit (.bool true)], args := [d1, d2] }
  | _ => none }
def octetShortRow : OpenClaim := { program := "ytpnbehgkbfhacaadoor", sum := "8745a4bd1e86995468cef45c0b4aec45c7f422c75d9b85452168d4b17452bd12", func := "lading/ladinglaw01.OctetShort", spec := "octetShort", inPlace := ["internal/reflectlite.ValueOf", "(internal/reflectlite.Value).Type", "(internal/reflectlite.Value).IsNil", "internal/reflectlite.TypeOf", "(internal/reflectlite.Value).Elem", "(internal/reflectlite.Value).Set"], unfollowed := true, recurses := true, named := ["errors.errorType"], apart := false, laid := [("errors.errorType", laid_errors_errorType)] }
def OctetShortSaid : Prop := octetShortRow.holds Tryd.pinned (OpenSpec.ofChange octetShortSpec)

/-- ITS FALSE NEIGHBOUR: 'it returns false'. Refute it at one input. -/
def octetShortWrong : ChangeSpec := { name := "octetShort", fn := fun _ => fun
  | [d1, d2] => { results := [.lit (.bool false)], args := [d1, d2] }
  | _ => none }
def OctetShortWrongFalsely : Prop := octetShortRow.holds Tryd.pinned (OpenSpec.ofChange octetShortWrong)

/-- 'ladinglaw03.FrameSeals': WHATEVER THE INPUT: true; the input reads as it did. -/
def frameSealsSpec : ChangeSpec := { name := "frameSeals", fn := fun _ => fun
  | [d1, d2, d3] => { results := [.lit (.bool true)], args := [d1, d2, d3] }
  | _ => none }
def frameSealsRow : OpenClaim := { program := "ytpnbehgkbfhacaadoor", sum := "8745a4bd1e86995468cef45c0b4aec45c7f422c75d9b85452168d4b17452bd12", func := "lading/ladinglaw03.FrameSeals", spec := "frameSeals", inPlace := ["internal/reflectlite.ValueOf", "(internal/reflectlite.Value).Type", "(internal/reflectlite.Value).IsNil", "internal/reflectlite.TypeOf", "(internal/reflectlite.Value).Elem", "(internal/reflectlite.Value).Set"], unfollowed := true, recurses := true, named := ["errors.errorType"], apart := false, laid := [("errors.errorType", laid_errors_errorType)] }
def FrameSealsSaid : Prop := frameSealsRow.holds Tryd.pinned (OpenSpec.ofChange frameSealsSpec)

/-- ITS FALSE NEIGHBOUR: 'it returns false'. Refute it at one input. -/
def frameSealsWrong : ChangeSpec := { name := "frameSeals", fn := fun _ => fun
  | [d1, d2, d3] => { results := [.lit (.bool false)], args := [d1, d2, d3] }
  | _ => none }
def FrameSealsWrongFalsely : Prop := frameSealsRow.holds Tryd.pinned (OpenSpec.ofChange frameSealsWrong)

/-- 'ladinglaw01.OctetRows': WHATEVER THE INPUT: true; the input reads as it did. -/
def octetRowsSpec : ChangeSpec := { name := "octetRows", fn := fun _ => fun
  | [d1, d2, d3] => { results := [.lit (.bool true)], args := [d1, d2, d3] }
  | _ => none }
def octetRowsRow : OpenClaim := { program := "ytpnbehgkbfhacaadoor", sum := "8745a4bd1e86995468cef45c0b4aec45c7f422c75d9b85452168d4b17452bd12", func := "lading/ladinglaw01.OctetRows", spec := "octetRows", inPlace := ["internal/abi.NoEscape", "internal/reflectlite.ValueOf", "(internal/reflectlite.Value).Type", "(internal/reflectlite.Value).IsNil", "internal/reflectlite.TypeOf", "(internal/reflectlite.Value).Elem", "(internal/reflectlite.Value).Set"], unfollowed := true, recurses := true, named := ["errors.errorType"], apart := false, laid := [("errors.errorType", laid_errors_errorType)] }
def OctetRowsSaid : Prop := octetRowsRow.holds Tryd.pinned (OpenSpec.ofChange octetRowsSpec)

/-- ITS FALSE NEIGHBOUR: 'it returns false'. Refute it at one input. -/
def octetRowsWrong : ChangeSpec := { name := "octetRows", fn := fun _ => fun
  | [d1, d2, d3] => { results := [.lit (.bool false)], args := [d1, d2, d3] }
  | _ => none }
def OctetRowsWrongFalsely : Prop := octetRowsRow.holds Tryd.pinned (OpenSpec.ofChange octetRowsWrong)

/-- 'ladinglaw06.GapGets': WHATEVER THE INPUT: true; the input reads as it did. -/
def gapGetsSpec : ChangeSpec := { name := "gapGets", fn := fun _ => fun
  | [d1, d2, d3] => { results := [.lit (.bool true)], args := [d1, d2, d3] }
  | _ => none }
def gapGetsRow : OpenClaim := { program := "ytpnbehgkbfhacaadoor", sum := "8745a4bd1e86995468cef45c0b4aec45c7f422c75d9b85452168d4b17452bd12", func := "lading/ladinglaw06.GapGets", spec := "gapGets", inPlace := ["internal/reflectlite.ValueOf", "(internal/reflectlite.Value).Type", "(internal/reflectlite.Value).IsNil", "internal/reflectlite.TypeOf", "(internal/reflectlite.Value).Elem", "(internal/reflectlite.Value).Set"], unfollowed := true, recurses := true, named := ["errors.errorType"], apart := false, laid := [("errors.errorType", laid_errors_errorType)] }
def GapGetsSaid : Prop := gapGetsRow.holds Tryd.pinned (OpenSpec.ofChange gapGetsSpec)

/-- ITS FALSE NEIGHBOUR: 'it returns false'. Refute it at one input. -/
def gapGetsWrong : ChangeSpec := { name := "gapGets", fn := fun _ => fun
  | [d1, d2, d3] => { results := [.lit (.bool false)], args := [d1, d2, d3] }
  | _ => none }
def GapGetsWrongFalsely : Prop := gapGetsRow.holds Tryd.pinned (OpenSpec.ofChange gapGetsWrong)

/-- 'ladinglaw06.GapPuts': WHATEVER THE INPUT: true; the input reads as it did. -/
def gapPutsSpec : ChangeSpec := { name := "gapPuts", fn := fun _ => fun
  | [d1, d2, d3] => { results := [.lit (.bool true)], args := [d1, d2, d3] }
  | _ => none }
def gapPutsRow : OpenClaim := { program := "ytpnbehgkbfhacaadoor", sum := "8745a4bd1e86995468cef45c0b4aec45c7f422c75d9b85452168d4b17452bd12", func := "lading/ladinglaw06.GapPuts", spec := "gapPuts", inPlace := ["internal/reflectlite.ValueOf", "(internal/reflectlite.Value).Type", "(internal/reflectlite.Value).IsNil", "internal/reflectlite.TypeOf", "(internal/reflectlite.Value).Elem", "(internal/reflectlite.Value).Set"], unfollowed := true, recurses := true, named := ["errors.errorType"], apart := false, laid := [("errors.errorType", laid_errors_errorType)] }
def GapPutsSaid : Prop := gapPutsRow.holds Tryd.pinned (OpenSpec.ofChange gapPutsSpec)

/-- ITS FALSE NEIGHBOUR: 'it returns false'. Refute it at one input. -/
def gapPutsWrong : ChangeSpec := { name := "gapPuts", fn := fun _ => fun
  | [d1, d2, d3] => { results := [.lit (.bool false)], args := [d1, d2, d3] }
  | _ => none }
def GapPutsWrongFalsely : Prop := gapPutsRow.holds Tryd.pinned (OpenSpec.ofChange gapPutsWrong)

/- THE SECOND FORM. 'bulk': how many values and letters a reading holds, each counted each time it is reached (what is shared counts as often as it is met; a slice's spare places count too). A statement '..UptoSaid' is the law's where the arguments, and the package variables that the reading takes, are together of bulk at most 1048576: NARROWER than '..Said'. Prove '..Said' where nothing that the law and all that it calls make is longer than what came in: it says more and counts as full. Else prove '..UptoSaid'. A law counts once. -/
mutual
def uptoBulk {H : Type} : DataW H → Nat
  | .lit (.string bytes) => bytes.length + 1
  | .lit _ => 1
  | .nil => 1
  | .ptr d => uptoBulk d + 1
  | .slice elems spare => uptoBulkAll elems + uptoBulkAll spare + 1
  | .agg parts => uptoBulkAll parts + 1
  | .iface _ d => uptoBulk d + 1
  | .map entries => uptoBulkEntries entries + 1
  | .held _ => 1
def uptoBulkAll {H : Type} : List (DataW H) → Nat
  | [] => 0
  | d :: r => uptoBulk d + uptoBulkAll r
def uptoBulkEntries {H : Type} : List (Lit × DataW H) → Nat
  | [] => 0
  | x :: r => uptoBulkEntry x + uptoBulkEntries r
def uptoBulkEntry {H : Type} : Lit × DataW H → Nat
  | (.string bytes, d) => bytes.length + uptoBulk d + 1
  | (_, d) => uptoBulk d + 1
 end
def uptoSmall : (H : Type) → List (DataW H) → Bool := fun _ ds => decide (uptoBulkAll ds ≤ 1048576)
def OpenSpec.upto (s : _root_.Go.ChangeSpec) : _root_.Go.OpenSpec := { _root_.Go.OpenSpec.ofChange s with cond := some uptoSmall }

/-- 'ladinglaw01.OctetFixed', WHERE WHAT IT READS IS OF BULK AT MOST 1048576: true; the input reads as it did. -/
def octetFixedUptoRow : OpenClaim := { program := "ytpnbehgkbfhacaadoor", sum := "8745a4bd1e86995468cef45c0b4aec45c7f422c75d9b85452168d4b17452bd12", func := "lading/ladinglaw01.OctetFixed", spec := "octetFixed", inPlace := ["internal/reflectlite.ValueOf", "(internal/reflectlite.Value).Type", "(internal/reflectlite.Value).IsNil", "internal/reflectlite.TypeOf", "(internal/reflectlite.Value).Elem", "(internal/reflectlite.Value).Set"], unfollowed := true, recurses := true, named := ["errors.errorType"], apart := false, laid := [("errors.errorType", laid_errors_errorType)], narrowed := true }
def OctetFixedUptoSaid : Prop := octetFixedUptoRow.holds Tryd.pinned (OpenSpec.upto octetFixedSpec)

/-- 'ladinglaw01.OctetShort', WHERE WHAT IT READS IS OF BULK AT MOST 1048576: true; the input reads as it did. -/
def octetShortUptoRow : OpenClaim := { program := "ytpnbehgkbfhacaadoor", sum := "8745a4bd1e86995468cef45c0b4aec45c7f422c75d9b85452168d4b17452bd12", func := "lading/ladinglaw01.OctetShort", spec := "octetShort", inPlace := ["internal/reflectlite.ValueOf", "(internal/reflectlite.Value).Type", "(internal/reflectlite.Value).IsNil", "internal/reflectlite.TypeOf", "(internal/reflectlite.Value).Elem", "(internal/reflectlite.Value).Set"], unfollowed := true, recurses := true, named := ["errors.errorType"], apart := false, laid := [("errors.errorType", laid_errors_errorType)], narrowed := true }
def OctetShortUptoSaid : Prop := octetShortUptoRow.holds Tryd.pinned (OpenSpec.upto octetShortSpec)

/-- 'ladinglaw03.FrameSeals', WHERE WHAT IT READS IS OF BULK AT MOST 1048576: true; the input reads as it did. -/
def frameSealsUptoRow : OpenClaim := { program := "ytpnbehgkbfhacaadoor", sum := "8745a4bd1e86995468cef45c0b4aec45c7f422c75d9b85452168d4b17452bd12", func := "lading/ladinglaw03.FrameSeals", spec := "frameSeals", inPlace := ["internal/reflectlite.ValueOf", "(internal/reflectlite.Value).Type", "(internal/reflectlite.Value).IsNil", "internal/reflectlite.TypeOf", "(internal/reflectlite.Value).Elem", "(internal/reflectlite.Value).Set"], unfollowed := true, recurses := true, named := ["errors.errorType"], apart := false, laid := [("errors.errorType", laid_errors_errorType)], narrowed := true }
def FrameSealsUptoSaid : Prop := frameSealsUptoRow.holds Tryd.pinned (OpenSpec.upto frameSealsSpec)

/-- 'ladinglaw01.OctetRows', WHERE WHAT IT READS IS OF BULK AT MOST 1048576: true; the input reads as it did. -/
def octetRowsUptoRow : OpenClaim := { program := "ytpnbehgkbfhacaadoor", sum := "8745a4bd1e86995468cef45c0b4aec45c7f422c75d9b85452168d4b17452bd12", func := "lading/ladinglaw01.OctetRows", spec := "octetRows", inPlace := ["internal/abi.NoEscape", "internal/reflectlite.ValueOf", "(internal/reflectlite.Value).Type", "(internal/reflectlite.Value).IsNil", "internal/reflectlite.TypeOf", "(internal/reflectlite.Value).Elem", "(internal/reflectlite.Value).Set"], unfollowed := true, recurses := true, named := ["errors.errorType"], apart := false, laid := [("errors.errorType", laid_errors_errorType)], narrowed := true }
def OctetRowsUptoSaid : Prop := octetRowsUptoRow.holds Tryd.pinned (OpenSpec.upto octetRowsSpec)

/-- 'ladinglaw06.GapGets', WHERE WHAT IT READS IS OF BULK AT MOST 1048576: true; the input reads as it did. -/
def gapGetsUptoRow : OpenClaim := { program := "ytpnbehgkbfhacaadoor", sum := "8745a4bd1e86995468cef45c0b4aec45c7f422c75d9b85452168d4b17452bd12", func := "lading/ladinglaw06.GapGets", spec := "gapGets", inPlace := ["internal/reflectlite.ValueOf", "(internal/reflectlite.Value).Type", "(internal/reflectlite.Value).IsNil", "internal/reflectlite.TypeOf", "(internal/reflectlite.Value).Elem", "(internal/reflectlite.Value).Set"], unfollowed := true, recurses := true, named := ["errors.errorType"], apart := false, laid := [("errors.errorType", laid_errors_errorType)], narrowed := true }
def GapGetsUptoSaid : Prop := gapGetsUptoRow.holds Tryd.pinned (OpenSpec.upto gapGetsSpec)

/-- 'ladinglaw06.GapPuts', WHERE WHAT IT READS IS OF BULK AT MOST 1048576: true; the input reads as it did. -/
def gapPutsUptoRow : OpenClaim := { program := "ytpnbehgkbfhacaadoor", sum := "8745a4bd1e86995468cef45c0b4aec45c7f422c75d9b85452168d4b17452bd12", func := "lading/ladinglaw06.GapPuts", spec := "gapPuts", inPlace := ["internal/reflectlite.ValueOf", "(internal/reflectlite.Value).Type", "(internal/reflectlite.Value).IsNil", "internal/reflectlite.TypeOf", "(internal/reflectlite.Value).Elem", "(internal/reflectlite.Value).Set"], unfollowed := true, recurses := true, named := ["errors.errorType"], apart := false, laid := [("errors.errorType", laid_errors_errorType)], narrowed := true }
def GapPutsUptoSaid : Prop := gapPutsUptoRow.holds Tryd.pinned (OpenSpec.upto gapPutsSpec)

end Rows
end Go.Proofs.YtpnbehgkbfhacaaDoor
