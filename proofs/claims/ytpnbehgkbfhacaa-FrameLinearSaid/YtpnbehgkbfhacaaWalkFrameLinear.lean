/- The law FrameLinear, from its arguments. -/
import Derived.Test.YtpnbehgkbfhacaaLawFrameLinear
import Derived.Test.YtpnbehgkbfhacaaArgs
set_option linter.unusedVariables false
set_option linter.unusedSimpArgs false
namespace Go.Proofs.Ytpnbehgkbfhacaa.K
open Go Go.RowKit Go.ChangeShapes Go.WideShapes Go.ChangeAt
theorem list3 {α : Type} {l : List α} (h : l.length = 3) : ∃ a b c, l = [a, b, c] := by
  match l, h with
  | [a, b, c], _ => exact ⟨a, b, c, rfl⟩
theorem FrameLinear_walk {X : Prop} {H : Type} {enc : TypeId × Value → H} (W : World) (args : Array Value) (ds : List (DataW H)) (p : List MemPlace) (base : Nat)
    (hval : ∀ (j : Nat) t v, Try.f4.params[j]? = some t → args[j]? = some v → Value.okWide Try.prog W .any base t v) (hA : DataW.TrodAll enc Try.prog W 0 (fun _ => true) true Try.f4.params.toList args.toList ds p) (hfz : X) :
    (∃ d d2, ds = [d, d2]) ∧ Calls Try.prog 4 args W fun e w' => e = .returned (.bool true) ∧ RowKit.Below W.heap.size W w' := by
  rw [Try.params4] at hA hval
  obtain ⟨v0, vs0, d0, ds0, p0, q0, hargs, rfl, rfl, h0, r0⟩ := trodAll_cons hA
  obtain ⟨v1, vs1, d1, ds1, p1, q1, rfl, rfl, rfl, h1, r1⟩ := trodAll_cons r0
  obtain ⟨rfl, rfl, rfl⟩ := trodAll_nil r1
  obtain rfl : args = #[v0, v1] := by cases args; simp_all
  obtain ⟨cs, rfl, hlen, hcell⟩ := arg_agg (ts := [9, 9, 9]) (.inl ⟨_, _, Try.underlying30⟩) (by kernel_rfl) (by kernel_rfl) (hval 0 30 v0 rfl rfl)
  obtain ⟨c0, c1, c2, rfl⟩ := list3 hlen
  obtain ⟨s0, rfl, g0⟩ := cell_str Try.underlying9 (hcell 0 c0 9 rfl rfl)
  obtain ⟨s1, rfl, g1⟩ := cell_str Try.underlying9 (hcell 1 c1 9 rfl rfl)
  obtain ⟨s2, rfl, g2⟩ := cell_str Try.underlying9 (hcell 2 c2 9 rfl rfl)
  obtain ⟨x, rfl, rfl, rfl, hx⟩ := open_int Try.underlying31 (hval 1 31 v1 rfl rfl) h1
  have hx' := lit_range hx
  refine ⟨⟨_, _, rfl⟩, ?_⟩
  have h := ladinglaw03_FrameLinear.sound 3000 s0 s1 s2 x (fun _ => none) _ (FrameLinear_wp (by omega) hx'.1 hx'.2 s0 s1 s2 _) W (fun b o hb => by cases hb)
  refine h.mono ?_
  rintro e w' ⟨v, H', rfl, st, q, rfl, rfl⟩
  exact ⟨rfl, st.below fun b o hb => by cases hb⟩
end Go.Proofs.Ytpnbehgkbfhacaa.K
