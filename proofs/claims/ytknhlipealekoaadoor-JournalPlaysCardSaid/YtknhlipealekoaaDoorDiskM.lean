/- A disk, in plain Lean: what each call does to it. -/
import Derived.Test.YtknhlipealekoaaDoorLib3
set_option linter.unusedVariables false
set_option linter.unusedSimpArgs false
namespace Go.Proofs.YtknhlipealekoaaDoor.K
open Go

abbrev Wr := Int × ByteArray
structure Ct where
  log : ByteArray
  slots : List ByteArray
def Ct.put (c : Ct) (w : Wr) : Ct := if w.1 = -1 then ⟨c.log ++ w.2, c.slots⟩ else ⟨c.log, c.slots.set w.1.toNat w.2⟩
structure DM where
  left : Int
  down : Bool
  now : Ct
  lasts : Ct
  waits : List Wr
def DM.new (n : Nat) : DM := ⟨-1, false, ⟨ByteArray.empty, List.replicate n ByteArray.empty⟩, ⟨ByteArray.empty, List.replicate n ByteArray.empty⟩, []⟩
/-- The fuse burns: what is left, and whether it goes down. -/
def DM.burn (m : DM) : DM := if m.left = 0 then { m with left := -1, down := true } else if 0 < m.left then { m with left := m.left - 1 } else m
def DM.lies (m : DM) (w : Wr) : DM := if w.1 = -1 ∧ w.2.size = 0 then m else { m with now := m.now.put w, waits := m.waits ++ [w] }
/-- A write: the error's number (0: none), and what is there then. -/
def DM.does (m : DM) (w : Wr) : DM := if m.left = 0 then m.burn else m.burn.lies w
def errN (n : Nat) : Option EV := if n = 0 then none else some (.no n)
def DM.burnE (m : DM) : Nat := if m.left = 0 then 8 else 0
def DM.append (m : DM) (s : ByteArray) : DM := if m.down then m else m.does (-1, s)
def DM.appendE (m : DM) : Nat := if m.down then 8 else m.burnE
def DM.slotE (m : DM) (n : Int) : Nat := if m.down then 8 else if n < 0 ∨ n ≥ m.now.slots.length then 2 else 0
def DM.putE (m : DM) (n : Int) (s : ByteArray) : Nat := if m.slotE n ≠ 0 then m.slotE n else if 64 < s.size then 6 else m.burnE
def DM.put (m : DM) (n : Int) (s : ByteArray) : DM := if m.slotE n ≠ 0 ∨ 64 < s.size then m else m.does (n, s)
def DM.settle (m : DM) : DM := { m with lasts := m.now, waits := [] }
def DM.sync (m : DM) : DM := if m.down then m else if m.left = 0 then m.burn else m.burn.settle
def DM.cutE (m : DM) (n : Int) : Nat := if m.down then 8 else if n < 0 ∨ n > m.now.log.size then 2 else m.burnE
def DM.cut (m : DM) (n : Int) : DM :=
  if m.down then m else if n < 0 ∨ n > m.now.log.size then m else if m.left = 0 then m.burn else { m.burn with now := ⟨m.now.log.extract 0 n.toNat, m.now.slots⟩, lasts := ⟨m.now.log.extract 0 n.toNat, m.now.slots⟩, waits := [] }
def DM.fuse (m : DM) (n : Int) : DM := { m with left := max n (-1) }
def turnB (s : ByteArray) (at_ : Nat) (by_ : Int) : ByteArray := if h : at_ < (bs s).length then ofL ((bs s).set at_ (UInt8.ofNat ((bs s)[at_].toNat ^^^ by_.toNat))) else s
def Ct.turn (c : Ct) (n at_ : Nat) (by_ : Int) : Ct := ⟨c.log, c.slots.set n (turnB (c.slots.getD n ByteArray.empty) at_ by_)⟩
/-- The last of the first k writes that is to the slot is turned. -/
def turnD (l : List Wr) (n : Int) (at_ : Nat) (by_ : Int) : Nat → List Wr
  | 0 => l
  | k + 1 => if (l.getD k (0, ByteArray.empty)).1 = n then l.set k (n, turnB (l.getD k (0, ByteArray.empty)).2 at_ by_) else turnD l n at_ by_ k
def turnW (l : List Wr) (n : Int) (at_ : Nat) (by_ : Int) : List Wr := turnD l n at_ by_ l.length
def DM.rotB (m : DM) (n at_ : Int) : Bool := decide (0 ≤ n ∧ n < m.now.slots.length ∧ 0 ≤ at_ ∧ at_ < (m.now.slots.getD n.toNat ByteArray.empty).size)
def DM.rot (m : DM) (n at_ by_ : Int) : DM := if m.rotB n at_ then { m with now := m.now.turn n.toNat at_.toNat by_, lasts := m.lasts.turn n.toNat at_.toNat by_, waits := turnW m.waits n at_.toNat by_ } else m
def zeroB (n : Nat) : ByteArray := ofL (List.replicate n 0)
def Ct.torn (c : Ct) (w : Wr) (lack : Int) : Wr :=
  let n := w.2.size - min (max lack 0).toNat w.2.size
  (w.1, if w.1 ≠ -1 ∧ n < w.2.size then w.2.extract 0 n ++ ((c.slots.getD w.1.toNat ByteArray.empty).extract (min n (c.slots.getD w.1.toNat ByteArray.empty).size) (c.slots.getD w.1.toNat ByteArray.empty).size) else w.2.extract 0 n)
/-- A crash, from some write on: what is kept, and the gap. -/
def crashC (lack : Int) : List (Bool × Wr) → ByteArray → Ct → Ct
  | [], _, c => c
  | (false, w) :: r, gap, c => crashC lack r (if w.1 = -1 then gap ++ zeroB w.2.size else gap) c
  | (true, w) :: r, gap, c =>
    let w' := if r.any (·.1) then w else c.torn w lack
    if w'.1 = -1 then crashC lack r ByteArray.empty (c.put (w'.1, gap ++ w'.2)) else crashC lack r gap (c.put w')
def DM.crash (m : DM) (keep : List Bool) (lack : Int) : DM :=
  let c := crashC lack (keep.zip m.waits) ByteArray.empty m.lasts
  ⟨-1, false, c, c, []⟩
/-- What each disk is: its slots are as many, its writes go where there is something; and it isn't too large. -/
structure DM.ok (m : DM) (k : Nat) : Prop where
  now : m.now.slots.length = k
  lasts : m.lasts.slots.length = k
  waits : ∀ w ∈ m.waits, w.1 = -1 ∨ 0 ≤ w.1 ∧ w.1 < k
  left : -1 ≤ m.left ∧ m.left ≤ 9223372036854775807
end Go.Proofs.YtknhlipealekoaaDoor.K
