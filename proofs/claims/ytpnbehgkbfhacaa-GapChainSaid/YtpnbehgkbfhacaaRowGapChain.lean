/- Rows that are written one behind the other are gone over, counted and read one by one, up to 40 nodes. -/
import Derived.Test.YtpnbehgkbfhacaaRows
import Derived.Test.YtpnbehgkbfhacaaLawGapChain
import Derived.Test.YtpnbehgkbfhacaaRow
import Derived.WalkKit
import Derived.ProofKit
import Derived.OpenShut
import Derived.ShutString
namespace Go.Proofs.Ytpnbehgkbfhacaa.gapChain
open Go.ChangeShapes Go.WideShapes Go.ChangeAt Go.RowKit
set_option linter.unusedVariables false

theorem own : ownKnob Try.prog.godebug = none := by kernel_rfl
theorem laidOut : laidOutB Try.prog = true := by kernel_rfl
theorem readables : (Try.f7.params.toList.all fun t => Try.prog.readableRec t && decide (t < Try.prog.types.size)) = true := by kernel_rfl

set_option maxRecDepth 100000 in
theorem lifted (os : Os) (started : os.Started) (H : Type) (enc : TypeId × Value → H) :
    ReturnsInHanded {} Try.checked os 7 .any (Rows.gapChainSpec.pre6 enc Try.prog Try.f7 Rows.gapChainRow.domain false) (Rows.gapChainSpec.post enc Try.prog Try.f7 false true false false) := by
  refine returnsInHanded_of_change (C := Try.checked) own started (by kernel_rfl) Try.func7
    (ChangeSpec.witness6 (enc := enc) (C := Try.checked) false ⟨#[], #[.slice none 0 0], []⟩ 8 (by kernel_rfl) (by kernel_rfl) (by kernel_rfl) (by kernel_rfl)) ?_
  intro W base args ds gs before hval0 hW hcnd hsz
  have hval : ∀ (j : Nat) t v, Try.f7.params[j]? = some t → args[j]? = some v → Value.okWide Try.prog W .any base t v := hval0
  have hW' := hW
  obtain ⟨p, q, hA0, hV, rfl, hfz, hnd⟩ := hW
  have hA : DataW.TrodAll enc Try.prog W 0 (fun _ => true) true Try.f7.params.toList args.toList ds p := hA0
  obtain ⟨rfl, rfl⟩ := trodVars_none hV
  simp only [List.append_nil] at hW'
  obtain ⟨hl, hwalk⟩ := K.GapChain_walk W args ds p base hval hA hfz
  refine hwalk.mono fun e W' ⟨he, hb⟩ => ?_
  subst he
  refine ⟨_, rfl, K.law_post (P := Try.prog) laidOut Try.underlying4 rfl rfl (fun t ht => ?_) hW' hA ?_ ?_ ?_ hb⟩
  · have := (List.all_eq_true.1 readables) t ht
    simpa using this
  · obtain ⟨d, rfl⟩ := hl; rfl
  · obtain ⟨d, rfl⟩ := hl; rfl
  · obtain ⟨d, rfl⟩ := hl; rfl

theorem over : Rows.gapChainRow.holds Try.pinned (OpenSpec.ofChange Rows.gapChainSpec) :=
  OpenClaim.holds_of_wide 7 Try.f7 rfl rfl rfl rfl rfl rfl rfl ⟨rfl, rfl, rfl, rfl, rfl⟩ rfl rfl rfl rfl rfl (by kernel_rfl) Try.func7 (by kernel_rfl)
    (of_decide_eq_true (by kernel_rfl)) (by unfold Func.isWrapper; first | (rw [if_pos (by decide +kernel)]; kernel_rfl) | (rw [if_neg (by decide +kernel)]; exact ⟨rfl, rfl⟩))
    (fun os started H enc _ => lifted os started H enc)

theorem proved : Rows.GapChainSaid := over
#print axioms proved
end Go.Proofs.Ytpnbehgkbfhacaa.gapChain
