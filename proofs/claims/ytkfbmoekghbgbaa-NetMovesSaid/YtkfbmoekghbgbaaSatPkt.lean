/- Packets compared. -/
import Derived.Test.YtkfbmoekghbgbaaSatNet
import Derived.Test.YtkfbmoekghbgbaaErr
import Derived.Tactics
import Derived.Tactics2
import Derived.StillTactics
import Derived.Laws.Pointers
import Derived.Laws.Small
import Derived.Laws.StructEq
set_option linter.unusedVariables false
set_option linter.unusedSimpArgs false
namespace Go.Proofs.Ytkfbmoekghbgbaa.K
open Go
theorem eqPkt (a b c d : Int) (s t : ByteArray) (w : World) : (Op.equalIn 10000 45 (.agg #[.int .i64 a, .int .i64 b, .string s]) (.agg #[.int .i64 c, .int .i64 d, .string t])).run Try.prog w = .ok (a == c && b == d && s.toList == t.toList) w := by
  have u3 := Try.underlying3
  have a3 := Try.isAgg3
  have z3 := Try.sizeOf3
  have u9 := Try.underlying9
  have a9 := Try.isAgg9
  have z9 := Try.sizeOf9
  have hS : Try.prog.underlying 45 = some (.struct (Try.prog.fieldsOf 45)) := by kernel_rfl
  have hp : Try.prog.stoodInHeld 45 = false := by kernel_rfl
  rw [show (10000 : Nat) = 9999 + 1 from rfl, run_equalIn_agg w 9999 45 _ _ hS hp]
  simp only [Program.fieldsOf, Try.underlying45]
  go_simp
  by_cases h1 : a = c <;> by_cases h2 : b = d <;> by_cases h3 : s.toList = t.toList <;> simp [h1, h2, h3]
theorem pktB (a b c d : Int) (s t : ByteArray) : (a == c && b == d && s.toList == t.toList) = decide (a = c ∧ b = d ∧ s = t) := by
  rw [beq_toList]
  by_cases h1 : a = c <;> by_cases h2 : b = d <;> by_cases h3 : s = t <;> simp [h1, h2, h3]
theorem ev_pktEq {ρ : Operand → Value} {o : Oper} {x y : Operand} {U : TypeId} {a b c d : Int} {s t : ByteArray} (ho : o.op = .binOp .eql 45 x y U) (hx : ρ x = .agg #[.int .i64 a, .int .i64 b, .string s]) (hy : ρ y = .agg #[.int .i64 c, .int .i64 d, .string t]) (w : World) :
    (execOp ρ o).run Try.prog w = .ok (.value (.bool (decide (a = c ∧ b = d ∧ s = t)))) w := by
  have hm : Try.prog.eqGuardType Try.prog.depth 45 = false := by kernel_rfl
  unfold execOp
  simp [ho, hx, hy, run_eqGuard_agg w _ _ _ _ _ _ hm, run_eql_struct, eqPkt, pktB]
theorem ev_pktNe {ρ : Operand → Value} {o : Oper} {x y : Operand} {U : TypeId} {a b c d : Int} {s t : ByteArray} (ho : o.op = .binOp .neq 45 x y U) (hx : ρ x = .agg #[.int .i64 a, .int .i64 b, .string s]) (hy : ρ y = .agg #[.int .i64 c, .int .i64 d, .string t]) (w : World) :
    (execOp ρ o).run Try.prog w = .ok (.value (.bool (!decide (a = c ∧ b = d ∧ s = t)))) w := by
  have hm : Try.prog.eqGuardType Try.prog.depth 45 = false := by kernel_rfl
  unfold execOp
  simp [ho, hx, hy, run_eqGuard_agg w _ _ _ _ _ _ hm, run_neq_struct, eqPkt, pktB]
end Go.Proofs.Ytkfbmoekghbgbaa.K
