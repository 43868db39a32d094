/-
  No cell of these rows narrows 'for every input' (looked for: loops, veiled, ifaces, maps, wideKeys, modest, calm, conditions, laid).
  DERIVED. THE GIVEN ROWS OF THIS SEAT. 5 by the template 'for every input the law returns true; each argument reads behind the call as it read before'; 0 by the template 'total and deterministic' (their statements: YtpnbehgkbfhacaaTotals.lean).
  GIVEN WITH THE SEED: the statements are not yours to turn. If you find one false, say at which input.
  Laid BY PROGRAM, IN A SANDBOX (cutbox-rows.mjs): the forced cells as the released guide's own fill.sh prints them over the translation bdead9b9ba41b9bc… (all of the seat's roots in one cut). By AI agents, Wed Nov 11 2026. No macro, syntax, notation, axiom, sorry.
-/
import Derived.Test.YtpnbehgkbfhacaaChecked
import GoSem.Claim
import GoSem.ClaimJoined
import GoSem.ClaimMapViews
import Derived.JoinedTies
import Derived.KernelRfl
namespace Go.Proofs.Ytpnbehgkbfhacaa
/- THE CELL 'sum', in the pinned program and in every row, IS THE sha256 OF THE DUMP (.gsa) THAT YtpnbehgkbfhacaaProg.lean LOADS. Nothing in Lean hashes anything: it is a label: what it is worth is what the hold of that sum in a sandbox is worth. -/
noncomputable def Try.pinned : Pinned := { name := "ytpnbehgkbfhacaa", sum := "bdead9b9ba41b9bcdc32afcc67a734155c5c7c52898a82cb3ac6d1a33fa2ccef", checked := Try.checked }
namespace Rows
def none {H : Type} : Left H := { results := [], args := [] }

/-- 'ladinglaw01.OctetOnce': WHATEVER THE INPUT: true; the input reads as it did. -/
def octetOnceSpec : ChangeSpec := { name := "octetOnce", fn := fun _ => fun
  | [d] => { results := [.lit (.bool true)], args := [d] }
  | _ => none }
def octetOnceRow : OpenClaim := { program := "ytpnbehgkbfhacaa", sum := "bdead9b9ba41b9bcdc32afcc67a734155c5c7c52898a82cb3ac6d1a33fa2ccef", func := "lading/ladinglaw01.OctetOnce", spec := "octetOnce", apart := false }
def OctetOnceSaid : Prop := octetOnceRow.holds Try.pinned (OpenSpec.ofChange octetOnceSpec)

/-- ITS FALSE NEIGHBOUR: 'it returns false'. Refute it at one input. -/
def octetOnceWrong : ChangeSpec := { name := "octetOnce", fn := fun _ => fun
  | [d] => { results := [.lit (.bool false)], args := [d] }
  | _ => none }
def OctetOnceWrongFalsely : Prop := octetOnceRow.holds Try.pinned (OpenSpec.ofChange octetOnceWrong)

/-- 'ladinglaw03.FrameLinear': WHATEVER THE INPUT: true; the input reads as it did. -/
def frameLinearSpec : ChangeSpec := { name := "frameLinear", fn := fun _ => fun
  | [d1, d2] => { results := [.lit (.bool true)], args := [d1, d2] }
  | _ => none }
def frameLinearRow : OpenClaim := { program := "ytpnbehgkbfhacaa", sum := "bdead9b9ba41b9bcdc32afcc67a734155c5c7c52898a82cb3ac6d1a33fa2ccef", func := "lading/ladinglaw03.FrameLinear", spec := "frameLinear", unfollowed := true, recurses := true, apart := false }
def FrameLinearSaid : Prop := frameLinearRow.holds Try.pinned (OpenSpec.ofChange frameLinearSpec)

/-- ITS FALSE NEIGHBOUR: 'it returns false'. Refute it at one input. -/
def frameLinearWrong : ChangeSpec := { name := "frameLinear", fn := fun _ => fun
  | [d1, d2] => { results := [.lit (.bool false)], args := [d1, d2] }
  | _ => none }
def FrameLinearWrongFalsely : Prop := frameLinearRow.holds Try.pinned (OpenSpec.ofChange frameLinearWrong)

/-- 'ladinglaw03.FrameRows': WHATEVER THE INPUT: true; the input reads as it did. -/
def frameRowsSpec : ChangeSpec := { name := "frameRows", fn := fun _ => fun
  | [d1, d2] => { results := [.lit (.bool true)], args := [d1, d2] }
  | _ => none }
def frameRowsRow : OpenClaim := { program := "ytpnbehgkbfhacaa", sum := "bdead9b9ba41b9bcdc32afcc67a734155c5c7c52898a82cb3ac6d1a33fa2ccef", func := "lading/ladinglaw03.FrameRows", spec := "frameRows", unfollowed := true, recurses := true, apart := false }
def FrameRowsSaid : Prop := frameRowsRow.holds Try.pinned (OpenSpec.ofChange frameRowsSpec)

/-- ITS FALSE NEIGHBOUR: 'it returns false'. Refute it at one input. -/
def frameRowsWrong : ChangeSpec := { name := "frameRows", fn := fun _ => fun
  | [d1, d2] => { results := [.lit (.bool false)], args := [d1, d2] }
  | _ => none }
def FrameRowsWrongFalsely : Prop := frameRowsRow.holds Try.pinned (OpenSpec.ofChange frameRowsWrong)

/-- 'ladinglaw06.GapTight': WHATEVER THE INPUT: true; the input reads as it did. -/
def gapTightSpec : ChangeSpec := { name := "gapTight", fn := fun _ => fun
  | [d1, d2, d3] => { results := [.lit (.bool true)], args := [d1, d2, d3] }
  | _ => none }
def gapTightRow : OpenClaim := { program := "ytpnbehgkbfhacaa", sum := "bdead9b9ba41b9bcdc32afcc67a734155c5c7c52898a82cb3ac6d1a33fa2ccef", func := "lading/ladinglaw06.GapTight", spec := "gapTight", apart := false }
def GapTightSaid : Prop := gapTightRow.holds Try.pinned (OpenSpec.ofChange gapTightSpec)

/-- ITS FALSE NEIGHBOUR: 'it returns false'. Refute it at one input. -/
def gapTightWrong : ChangeSpec := { name := "gapTight", fn := fun _ => fun
  | [d1, d2, d3] => { results := [.lit (.bool false)], args := [d1, d2, d3] }
  | _ => none }
def GapTightWrongFalsely : Prop := gapTightRow.holds Try.pinned (OpenSpec.ofChange gapTightWrong)

/-- 'ladinglaw06.GapChain': WHATEVER THE INPUT: true; the input reads as it did. -/
def gapChainSpec : ChangeSpec := { name := "gapChain", fn := fun _ => fun
  | [d] => { results := [.lit (.bool true)], args := [d] }
  | _ => none }
def gapChainRow : OpenClaim := { program := "ytpnbehgkbfhacaa", sum := "bdead9b9ba41b9bcdc32afcc67a734155c5c7c52898a82cb3ac6d1a33fa2ccef", func := "lading/ladinglaw06.GapChain", spec := "gapChain", apart := false }
def GapChainSaid : Prop := gapChainRow.holds Try.pinned (OpenSpec.ofChange gapChainSpec)

/-- ITS FALSE NEIGHBOUR: 'it returns false'. Refute it at one input. -/
def gapChainWrong : ChangeSpec := { name := "gapChain", fn := fun _ => fun
  | [d] => { results := [.lit (.bool false)], args := [d] }
  | _ => none }
def GapChainWrongFalsely : Prop := gapChainRow.holds Try.pinned (OpenSpec.ofChange gapChainWrong)

/- THE SECOND FORM. 'bulk': how many values and letters a reading holds, each counted each time it is reached (what is shared counts as often as it is met; a slice's spare places count too). A statement '..UptoSaid' is the law's where the arguments, and the package variables that the reading takes, are together of bulk at most 1048576: NARROWER than '..Said'. Prove '..Said' where nothing that the law and all that it calls make is longer than what came in: it says more and counts as full. Else prove '..UptoSaid'. A law counts once. -/
mutual
def uptoBulk {H : Type} : DataW H → Nat
  | .lit (.string bytes) => bytes.length + 1
  | .lit _ => 1
  | .nil => 1
  | .ptr d => uptoBulk d + 1
  | .slice elems spare => uptoBulkAll elems + uptoBulkAll spare + 1
  | .agg parts => uptoBulkAll parts + 1
  | .iface _ d => uptoBulk d + 1
  | .map entries => uptoBulkEntries entries + 1
  | .held _ => 1
def uptoBulkAll {H : Type} : List (DataW H) → Nat
  | [] => 0
  | d :: r => uptoBulk d + uptoBulkAll r
def uptoBulkEntries {H : Type} : List (Lit × DataW H) → Nat
  | [] => 0
  | x :: r => uptoBulkEntry x + uptoBulkEntries r
def uptoBulkEntry {H : Type} : Lit × DataW H → Nat
  | (.string bytes, d) => bytes.length + uptoBulk d + 1
  | (_, d) => uptoBulk d + 1
 end
def uptoSmall : (H : Type) → List (DataW H) → Bool := fun _ ds => decide (uptoBulkAll ds ≤ 1048576)
def OpenSpec.upto (s : _root_.Go.ChangeSpec) : _root_.Go.OpenSpec := { _root_.Go.OpenSpec.ofChange s with cond := some uptoSmall }

/-- 'ladinglaw01.OctetOnce', WHERE WHAT IT READS IS OF BULK AT MOST 1048576: true; the input reads as it did. -/
def octetOnceUptoRow : OpenClaim := { program := "ytpnbehgkbfhacaa", sum := "bdead9b9ba41b9bcdc32afcc67a734155c5c7c52898a82cb3ac6d1a33fa2ccef", func := "lading/ladinglaw01.OctetOnce", spec := "octetOnce", apart := false, narrowed := true }
def OctetOnceUptoSaid : Prop := octetOnceUptoRow.holds Try.pinned (OpenSpec.upto octetOnceSpec)

/-- 'ladinglaw03.FrameLinear', WHERE WHAT IT READS IS OF BULK AT MOST 1048576: true; the input reads as it did. -/
def frameLinearUptoRow : OpenClaim := { program := "ytpnbehgkbfhacaa", sum := "bdead9b9ba41b9bcdc32afcc67a734155c5c7c52898a82cb3ac6d1a33fa2ccef", func := "lading/ladinglaw03.FrameLinear", spec := "frameLinear", unfollowed := true, recurses := true, apart := false, narrowed := true }
def FrameLinearUptoSaid : Prop := frameLinearUptoRow.holds Try.pinned (OpenSpec.upto frameLinearSpec)

/-- 'ladinglaw03.FrameRows', WHERE WHAT IT READS IS OF BULK AT MOST 1048576: true; the input reads as it did. -/
def frameRowsUptoRow : OpenClaim := { program := "ytpnbehgkbfhacaa", sum := "bdead9b9ba41b9bcdc32afcc67a734155c5c7c52898a82cb3ac6d1a33fa2ccef", func := "lading/ladinglaw03.FrameRows", spec := "frameRows", unfollowed := true, recurses := true, apart := false, narrowed := true }
def FrameRowsUptoSaid : Prop := frameRowsUptoRow.holds Try.pinned (OpenSpec.upto frameRowsSpec)

/-- 'ladinglaw06.GapTight', WHERE WHAT IT READS IS OF BULK AT MOST 1048576: true; the input reads as it did. -/
def gapTightUptoRow : OpenClaim := { program := "ytpnbehgkbfhacaa", sum := "bdead9b9ba41b9bcdc32afcc67a734155c5c7c52898a82cb3ac6d1a33fa2ccef", func := "lading/ladinglaw06.GapTight", spec := "gapTight", apart := false, narrowed := true }
def GapTightUptoSaid : Prop := gapTightUptoRow.holds Try.pinned (OpenSpec.upto gapTightSpec)

/-- 'ladinglaw06.GapChain', WHERE WHAT IT READS IS OF BULK AT MOST 1048576: true; the input reads as it did. -/
def gapChainUptoRow : OpenClaim := { program := "ytpnbehgkbfhacaa", sum := "bdead9b9ba41b9bcdc32afcc67a734155c5c7c52898a82cb3ac6d1a33fa2ccef", func := "lading/ladinglaw06.GapChain", spec := "gapChain", apart := false, narrowed := true }
def GapChainUptoSaid : Prop := gapChainUptoRow.holds Try.pinned (OpenSpec.upto gapChainSpec)

end Rows
end Go.Proofs.Ytpnbehgkbfhacaa
