/- What is turned about on the net is the same packets, in the order in which they are taken, up to 60 packets and 60 turns. -/
import Derived.Test.YtkfbmoekghbgbaaRows
import Derived.Test.YtkfbmoekghbgbaaLawNetMoves
import Derived.Test.YtkfbmoekghbgbaaRow
import Derived.WalkKit
import Derived.ProofKit
import Derived.OpenShut
import Derived.ShutString
namespace Go.Proofs.Ytkfbmoekghbgbaa.netMoves
open Go.ChangeShapes Go.WideShapes Go.ChangeAt Go.RowKit
set_option linter.unusedVariables false

theorem own : ownKnob Try.prog.godebug = none := by kernel_rfl
theorem laidOut : laidOutB Try.prog = true := by kernel_rfl
theorem readables : (Try.f4.params.toList.all fun t => Try.prog.readableRec t && decide (t < Try.prog.types.size)) = true := by kernel_rfl

set_option maxRecDepth 100000 in
theorem lifted (os : Os) (started : os.Started) (H : Type) (enc : TypeId × Value → H) :
    ReturnsInHanded {} Try.checked os 4 .any (Rows.netMovesSpec.pre6 enc Try.prog Try.f4 Rows.netMovesRow.domain false) (Rows.netMovesSpec.post enc Try.prog Try.f4 false true false false) := by
  refine returnsInHanded_of_change (C := Try.checked) own started (by kernel_rfl) Try.func4
    (ChangeSpec.witness6 (enc := enc) (C := Try.checked) false ⟨#[], #[.int .u8 0, .slice none 0 0], []⟩ 8 (by kernel_rfl) (by kernel_rfl) (by kernel_rfl) (by kernel_rfl)) ?_
  intro W base args ds gs before hval0 hW hcnd hsz
  have hval : ∀ (j : Nat) t v, Try.f4.params[j]? = some t → args[j]? = some v → Value.okWide Try.prog W .any base t v := hval0
  have hW' := hW
  obtain ⟨p, q, hA0, hV, rfl, hfz, hnd⟩ := hW
  have hA : DataW.TrodAll enc Try.prog W 0 (fun _ => true) true Try.f4.params.toList args.toList ds p := hA0
  obtain ⟨rfl, rfl⟩ := trodVars_none hV
  simp only [List.append_nil] at hW'
  obtain ⟨hl, hwalk⟩ := K.NetMoves_walk W args ds p base hval hA hfz
  refine hwalk.mono fun e W' ⟨he, hb⟩ => ?_
  subst he
  refine ⟨_, rfl, K.law_post (P := Try.prog) laidOut Try.underlying4 rfl rfl (fun t ht => ?_) hW' hA ?_ ?_ ?_ hb⟩
  · have := (List.all_eq_true.1 readables) t ht
    simpa using this
  · obtain ⟨d0, d1, rfl⟩ := hl; rfl
  · obtain ⟨d0, d1, rfl⟩ := hl; rfl
  · obtain ⟨d0, d1, rfl⟩ := hl; rfl

theorem over : Rows.netMovesRow.holds Try.pinned (OpenSpec.ofChange Rows.netMovesSpec) :=
  OpenClaim.holds_of_wide 4 Try.f4 rfl rfl rfl rfl rfl rfl rfl ⟨rfl, rfl, rfl, rfl, rfl⟩ rfl rfl rfl rfl rfl (by kernel_rfl) Try.func4 (by kernel_rfl)
    (of_decide_eq_true (by kernel_rfl)) (by unfold Func.isWrapper; first | (rw [if_pos (by decide +kernel)]; kernel_rfl) | (rw [if_neg (by decide +kernel)]; exact ⟨rfl, rfl⟩))
    (fun os started H enc _ => lifted os started H enc)

theorem proved : Rows.NetMovesSaid := over
#print axioms proved
end Go.Proofs.Ytkfbmoekghbgbaa.netMoves
