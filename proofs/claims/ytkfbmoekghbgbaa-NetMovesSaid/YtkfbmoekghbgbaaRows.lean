/-
  No cell of these rows narrows 'for every input' (looked for: loops, veiled, ifaces, maps, wideKeys, modest, calm, conditions, laid).
  DERIVED. THE GIVEN ROWS OF THIS SEAT. 4 by the template 'for every input the law returns true; each argument reads behind the call as it read before'; 0 by the template 'total and deterministic' (their statements: YtkfbmoekghbgbaaTotals.lean).
  GIVEN WITH THE SEED: the statements are not yours to turn. If you find one false, say at which input.
  Laid BY PROGRAM, IN A SANDBOX (cutbox-rows.mjs): the forced cells as the released guide's own fill.sh prints them over the translation b969cd6acbac8a47… (all of the seat's roots in one cut). By AI agents, Wed Nov 11 2026. No macro, syntax, notation, axiom, sorry.
-/
import Derived.Test.YtkfbmoekghbgbaaChecked
import GoSem.Claim
import GoSem.ClaimJoined
import GoSem.ClaimMapViews
import Derived.JoinedTies
import Derived.KernelRfl
namespace Go.Proofs.Ytkfbmoekghbgbaa
/- THE CELL 'sum', in the pinned program and in every row, IS THE sha256 OF THE DUMP (.gsa) THAT YtkfbmoekghbgbaaProg.lean LOADS. Nothing in Lean hashes anything: it is a label: what it is worth is what the hold of that sum in a sandbox is worth. -/
noncomputable def Try.pinned : Pinned := { name := "ytkfbmoekghbgbaa", sum := "b969cd6acbac8a474ed86fa662393d2789cc718832ab41e916d77d7e87f38d94", checked := Try.checked }
namespace Rows
def none {H : Type} : Left H := { results := [], args := [] }

/-- 'ladinglaw18.MsgSame': WHATEVER THE INPUT: true; the input reads as it did. -/
def msgSameSpec : ChangeSpec := { name := "msgSame", fn := fun _ => fun
  | [d1, d2, d3] => { results := [.lit (.bool true)], args := [d1, d2, d3] }
  | _ => none }
def msgSameRow : OpenClaim := { program := "ytkfbmoekghbgbaa", sum := "b969cd6acbac8a474ed86fa662393d2789cc718832ab41e916d77d7e87f38d94", func := "lading/ladinglaw18.MsgSame", spec := "msgSame", inPlace := ["internal/abi.NoEscape"], unfollowed := true, recurses := true, apart := false }
def MsgSameSaid : Prop := msgSameRow.holds Try.pinned (OpenSpec.ofChange msgSameSpec)

/-- ITS FALSE NEIGHBOUR: 'it returns false'. Refute it at one input. -/
def msgSameWrong : ChangeSpec := { name := "msgSame", fn := fun _ => fun
  | [d1, d2, d3] => { results := [.lit (.bool false)], args := [d1, d2, d3] }
  | _ => none }
def MsgSameWrongFalsely : Prop := msgSameRow.holds Try.pinned (OpenSpec.ofChange msgSameWrong)

/-- 'ladinglaw19.NetMoves': WHATEVER THE INPUT: true; the input reads as it did. -/
def netMovesSpec : ChangeSpec := { name := "netMoves", fn := fun _ => fun
  | [d1, d2] => { results := [.lit (.bool true)], args := [d1, d2] }
  | _ => none }
def netMovesRow : OpenClaim := { program := "ytkfbmoekghbgbaa", sum := "b969cd6acbac8a474ed86fa662393d2789cc718832ab41e916d77d7e87f38d94", func := "lading/ladinglaw19.NetMoves", spec := "netMoves", inPlace := ["slices.overlaps[lading/net.flying]"], apart := false }
def NetMovesSaid : Prop := netMovesRow.holds Try.pinned (OpenSpec.ofChange netMovesSpec)

/-- ITS FALSE NEIGHBOUR: 'it returns false'. Refute it at one input. -/
def netMovesWrong : ChangeSpec := { name := "netMoves", fn := fun _ => fun
  | [d1, d2] => { results := [.lit (.bool false)], args := [d1, d2] }
  | _ => none }
def NetMovesWrongFalsely : Prop := netMovesRow.holds Try.pinned (OpenSpec.ofChange netMovesWrong)

/-- 'ladinglaw19.NetNames': WHATEVER THE INPUT: true; the input reads as it did. -/
def netNamesSpec : ChangeSpec := { name := "netNames", fn := fun _ => fun
  | [d] => { results := [.lit (.bool true)], args := [d] }
  | _ => none }
def netNamesRow : OpenClaim := { program := "ytkfbmoekghbgbaa", sum := "b969cd6acbac8a474ed86fa662393d2789cc718832ab41e916d77d7e87f38d94", func := "lading/ladinglaw19.NetNames", spec := "netNames", inPlace := ["slices.overlaps[lading/net.flying]"], apart := false }
def NetNamesSaid : Prop := netNamesRow.holds Try.pinned (OpenSpec.ofChange netNamesSpec)

/-- ITS FALSE NEIGHBOUR: 'it returns false'. Refute it at one input. -/
def netNamesWrong : ChangeSpec := { name := "netNames", fn := fun _ => fun
  | [d] => { results := [.lit (.bool false)], args := [d] }
  | _ => none }
def NetNamesWrongFalsely : Prop := netNamesRow.holds Try.pinned (OpenSpec.ofChange netNamesWrong)

/-- 'ladinglaw18.MsgCuts': WHATEVER THE INPUT: true; the input reads as it did. -/
def msgCutsSpec : ChangeSpec := { name := "msgCuts", fn := fun _ => fun
  | [d1, d2, d3] => { results := [.lit (.bool true)], args := [d1, d2, d3] }
  | _ => none }
def msgCutsRow : OpenClaim := { program := "ytkfbmoekghbgbaa", sum := "b969cd6acbac8a474ed86fa662393d2789cc718832ab41e916d77d7e87f38d94", func := "lading/ladinglaw18.MsgCuts", spec := "msgCuts", inPlace := ["internal/abi.NoEscape"], unfollowed := true, recurses := true, apart := false }
def MsgCutsSaid : Prop := msgCutsRow.holds Try.pinned (OpenSpec.ofChange msgCutsSpec)

/-- ITS FALSE NEIGHBOUR: 'it returns false'. Refute it at one input. -/
def msgCutsWrong : ChangeSpec := { name := "msgCuts", fn := fun _ => fun
  | [d1, d2, d3] => { results := [.lit (.bool false)], args := [d1, d2, d3] }
  | _ => none }
def MsgCutsWrongFalsely : Prop := msgCutsRow.holds Try.pinned (OpenSpec.ofChange msgCutsWrong)

/- THE SECOND FORM. 'bulk': how many values and letters a reading holds, each counted each time it is reached (what is shared counts as often as it is met; a slice's spare places count too). A statement '..UptoSaid' is the law's where the arguments, and the package variables that the reading takes, are together of bulk at most 1048576: NARROWER than '..Said'. Prove '..Said' where nothing that the law and all that it calls make is longer than what came in: it says more and counts as full. Else prove '..UptoSaid'. A law counts once. -/
mutual
def uptoBulk {H : Type} : DataW H → Nat
  | .lit (.string bytes) => bytes.length + 1
  | .lit _ => 1
  | .nil => 1
  | .ptr d => uptoBulk d + 1
  | .slice elems spare => uptoBulkAll elems + uptoBulkAll spare + 1
  | .agg parts => uptoBulkAll parts + 1
  | .iface _ d => uptoBulk d + 1
  | .map entries => uptoBulkEntries entries + 1
  | .held _ => 1
def uptoBulkAll {H : Type} : List (DataW H) → Nat
  | [] => 0
  | d :: r => uptoBulk d + uptoBulkAll r
def uptoBulkEntries {H : Type} : List (Lit × DataW H) → Nat
  | [] => 0
  | x :: r => uptoBulkEntry x + uptoBulkEntries r
def uptoBulkEntry {H : Type} : Lit × DataW H → Nat
  | (.string bytes, d) => bytes.length + uptoBulk d + 1
  | (_, d) => uptoBulk d + 1
 end
def uptoSmall : (H : Type) → List (DataW H) → Bool := fun _ ds => decide (uptoBulkAll ds ≤ 1048576)
def OpenSpec.upto (s : _root_.Go.ChangeSpec) : _root_.Go.OpenSpec := { _root_.Go.OpenSpec.ofChange s with cond := some uptoSmall }

/-- 'ladinglaw18.MsgSame', WHERE WHAT IT READS IS OF BULK AT MOST 1048576: true; the input reads as it did. -/
def msgSameUptoRow : OpenClaim := { program := "ytkfbmoekghbgbaa", sum := "b969cd6acbac8a474ed86fa662393d2789cc718832ab41e916d77d7e87f38d94", func := "lading/ladinglaw18.MsgSame", spec := "msgSame", inPlace := ["internal/abi.NoEscape"], unfollowed := true, recurses := true, apart := false, narrowed := true }
def MsgSameUptoSaid : Prop := msgSameUptoRow.holds Try.pinned (OpenSpec.upto msgSameSpec)

/-- 'ladinglaw19.NetMoves', WHERE WHAT IT READS IS OF BULK AT MOST 1048576: true; the input reads as it did. -/
def netMovesUptoRow : OpenClaim := { program := "ytkfbmoekghbgbaa", sum := "b969cd6acbac8a474ed86fa662393d2789cc718832ab41e916d77d7e87f38d94", func := "lading/ladinglaw19.NetMoves", spec := "netMoves", inPlace := ["slices.overlaps[lading/net.flying]"], apart := false, narrowed := true }
def NetMovesUptoSaid : Prop := netMovesUptoRow.holds Try.pinned (OpenSpec.upto netMovesSpec)

/-- 'ladinglaw19.NetNames', WHERE WHAT IT READS IS OF BULK AT MOST 1048576: true; the input reads as it did. -/
def netNamesUptoRow : OpenClaim := { program := "ytkfbmoekghbgbaa", sum := "b969cd6acbac8a474ed86fa662393d2789cc718832ab41e916d77d7e87f38d94", func := "lading/ladinglaw19.NetNames", spec := "netNames", inPlace := ["slices.overlaps[lading/net.flying]"], apart := false, narrowed := true }
def NetNamesUptoSaid : Prop := netNamesUptoRow.holds Try.pinned (OpenSpec.upto netNamesSpec)

/-- 'ladinglaw18.MsgCuts', WHERE WHAT IT READS IS OF BULK AT MOST 1048576: true; the input reads as it did. -/
def msgCutsUptoRow : OpenClaim := { program := "ytkfbmoekghbgbaa", sum := "b969cd6acbac8a474ed86fa662393d2789cc718832ab41e916d77d7e87f38d94", func := "lading/ladinglaw18.MsgCuts", spec := "msgCuts", inPlace := ["internal/abi.NoEscape"], unfollowed := true, recurses := true, apart := false, narrowed := true }
def MsgCutsUptoSaid : Prop := msgCutsUptoRow.holds Try.pinned (OpenSpec.upto msgCutsSpec)

end Rows
end Go.Proofs.Ytkfbmoekghbgbaa
