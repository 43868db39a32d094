/- The law FrameRows, from its arguments. -/
import Derived.Test.YtpnbehgkbfhacaaLawFrameRows
import Derived.Test.YtpnbehgkbfhacaaArgs
set_option linter.unusedVariables false
set_option linter.unusedSimpArgs false
namespace Go.Proofs.Ytpnbehgkbfhacaa.K
open Go Go.RowKit Go.ChangeShapes Go.WideShapes Go.ChangeAt
theorem FrameRows_walk {X : Prop} {H : Type} {enc : TypeId × Value → H} (W : World) (args : Array Value) (ds : List (DataW H)) (p : List MemPlace) (base : Nat)
    (hval : ∀ (j : Nat) t v, Try.f5.params[j]? = some t → args[j]? = some v → Value.okWide Try.prog W .any base t v) (hA : DataW.TrodAll enc Try.prog W 0 (fun _ => true) true Try.f5.params.toList args.toList ds p) (hfz : X) :
    (∃ d d2, ds = [d, d2]) ∧ Calls Try.prog 5 args W fun e w' => e = .returned (.bool true) ∧ RowKit.Below W.heap.size W w' := by
  rw [Try.params5] at hA hval
  obtain ⟨v0, vs0, d0, ds0, p0, q0, hargs, rfl, rfl, h0, r0⟩ := trodAll_cons hA
  obtain ⟨v1, vs1, d1, ds1, p1, q1, rfl, rfl, rfl, h1, r1⟩ := trodAll_cons r0
  obtain ⟨rfl, rfl, rfl⟩ := trodAll_nil r1
  obtain rfl : args = #[v0, v1] := by cases args; simp_all
  obtain ⟨l, ss, rfl, hl, _, hr, hs⟩ := arg_strs Try.underlying35 Try.underlying9 (by kernel_rfl) (hval 0 35 v0 rfl rfl) h0
  obtain ⟨x, rfl, rfl, rfl, hx⟩ := open_int Try.underlying31 (hval 1 31 v1 rfl rfl) h1
  have hx' := lit_range hx
  refine ⟨⟨_, _, rfl⟩, ?_⟩
  have h := ladinglaw03_FrameRows.sound 3000 l x (SH.of W) _ (FrameRows_wp (by omega) hl hr hx'.1 hx'.2) W (SH.of_sat W)
  refine h.mono ?_
  rintro e w' ⟨v, H', rfl, st, q, rfl, rfl⟩
  exact ⟨rfl, st.below fun b o hb => SH.of_ro hb⟩
end Go.Proofs.Ytpnbehgkbfhacaa.K
