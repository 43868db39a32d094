/- Packets compared. -/
import Derived.Test.YtkfbmoekghbgbaaDoorSatNet
import Derived.Test.YtkfbmoekghbgbaaDoorErr
import Derived.Tactics
import Derived.Tactics2
import Derived.StillTactics
import Derived.Laws.Pointers
import Derived.Laws.Small
import Derived.Laws.StructEq
set_option linter.unusedVariables false
set_option linter.unusedSimpArgs false
namespace Go.Proofs.YtkfbmoekghbgbaaDoor.K
open Go
theorem eqPkt (a b c d : Int) (s t : ByteArray) (w : World) : (Op.equalIn 10000 34 (.agg #[.int .i64 a, .int .i64 b, .string s]) (.agg #[.int .i64 c, .int .i64 d, .string t])).run Tryd.prog w = .ok (a == c && b == d && s.toList == t.toList) w := by
  have u3 := Tryd.underlying3
  have a3 := Tryd.isAgg3
  have z3 := Tryd.sizeOf3
  have u9 := Tryd.underlying9
  have a9 := Tryd.isAgg9
  have z9 := Tryd.sizeOf9
  have hS : Tryd.prog.underlying 34 = some (.struct (Tryd.prog.fieldsOf 34)) := by kernel_rfl
  have hp : Tryd.prog.stoodInHeld 34 = false := by kernel_rfl
  rw [show (10000 : Nat) = 9999 + 1 from rfl, run_equalIn_agg w 9999 34 _ _ hS hp]
  simp only [Program.fieldsOf, Tryd.underlying34]
  go_simp
  by_cases h1 : a = c <;> by_cases h2 : b = d <;> by_cases h3 : s.toList = t.toList <;> simp [h1, h2, h3]
theorem pktB (a b c d : Int) (s t : ByteArray) : (a == c && b == d && s.toList == t.toList) = decide (a = c ∧ b = d ∧ s = t) := by
  rw [beq_toList]
  by_cases h1 : a = c <;> by_cases h2 : b = d <;> by_cases h3 : s = t <;> simp [h1, h2, h3]
theorem ev_pktEq {ρ : Operand → Value} {o : Oper} {x y : Operand} {U : TypeId} {a b c d : Int} {s t : ByteArray} (ho : o.op = .binOp .eql 34 x y U) (hx : ρ x = .agg #[.int .i64 a, .int .i64 b, .string s]) (hy : ρ y = .agg #[.int .i64 c, .int .i64 d, .string t]) (w : World) :
    (execOp ρ o).run Tryd.prog w = .ok (.value (.bool (decide (a = c ∧ b = d ∧ s = t)))) w := by
  have hm : Tryd.prog.eqGuardType Tryd.prog.depth 34 = false := by kernel_rfl
  unfold execOp
  simp [ho, hx, hy, run_eqGuard_agg w _ _ _ _ _ _ hm, run_eql_struct, eqPkt, pktB]
theorem ev_pktNe {ρ : Operand → Value} {o : Oper} {x y : Operand} {U : TypeId} {a b c d : Int} {s t : ByteArray} (ho : o.op = .binOp .neq 34 x y U) (hx : ρ x = .agg #[.int .i64 a, .int .i64 b, .string s]) (hy : ρ y = .agg #[.int .i64 c, .int .i64 d, .string t]) (w : World) :
    (execOp ρ o).run Tryd.prog w = .ok (.value (.bool (!decide (a = c ∧ b = d ∧ s = t)))) w := by
  have hm : Tryd.prog.eqGuardType Tryd.prog.depth 34 = false := by kernel_rfl
  unfold execOp
  simp [ho, hx, hy, run_eqGuard_agg w _ _ _ _ _ _ hm, run_neq_struct, eqPkt, pktB]
end Go.Proofs.YtkfbmoekghbgbaaDoor.K
