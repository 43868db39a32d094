/- The law OctetOnce: what is read as a short number is just what is written for it. -/
import Derived.Test.YtpnbehgkbfhacaaSpecOctet
import Derived.Test.YtpnbehgkbfhacaaGlaw1
import Derived.Test.YtpnbehgkbfhacaaRow
set_option linter.unusedVariables false
set_option linter.unusedSimpArgs false
namespace Go.Proofs.Ytpnbehgkbfhacaa.K
open Go
theorem awake01_spec {F : Nat} (hF : 10 ≤ F) {H : SH} {K : Bool → SH → Prop} (h : K true H) : ladinglaw01_awake.wp F H K := by
  have h1 : ofL (shortL 300) = (⟨#[172, 2]⟩ : ByteArray) := by
    rw [shortL_more (by omega), shortL_one (by omega)]; rfl
  refine PutShort_spec (x := 300) hF (by omega) (br_t h1 (o_none (Turn_spec (by omega) (by omega) ⟨H, .refl H, ?_⟩)))
  exact h
theorem OctetOnce_wp {F : Nat} (hF : 10 ≤ F) (s : ByteArray) (H : SH) : ladinglaw01_OctetOnce.wp F s H (fun b _ => b = true) := by
  refine awake01_spec hF (br_t rfl ⟨fun _ => ⟨H, .refl H, rfl⟩, fun hs => ?_⟩)
  refine Short_spec (p := 0) hF (by omega) (by omega) ?_
  cases hr : readL ((bs s).drop 0) 0 0 with
  | ok x n =>
    obtain ⟨h1, h2, h3, h4⟩ := shortL_read hr
    simp only [List.drop_zero] at h2 h3
    rw [bs_len] at h3
    refine o_none (PutShort_spec hF h1 (o_none ⟨by omega, by omega, by omega, H, .refl H, ?_⟩))
    apply decide_eq_true
    apply bs_inj
    rw [bs_ofL, bs_extract, h2]
    simp
  | form => exact o_some (br_t rfl ⟨H, .refl H, rfl⟩)
  | cut => exact o_some (br_t rfl ⟨H, .refl H, rfl⟩)
open Go.RowKit Go.ChangeShapes Go.WideShapes Go.ChangeAt in
theorem OctetOnce_walk {H : Type} {enc : TypeId × Value → H} (W : World) (args : Array Value) (ds : List (DataW H)) (p : List MemPlace) (base : Nat)
    (hval : ∀ (j : Nat) t v, Try.f3.params[j]? = some t → args[j]? = some v → Value.okWide Try.prog W .any base t v) (hA : DataW.TrodAll enc Try.prog W 0 (fun _ => true) true Try.f3.params.toList args.toList ds p) (hfz : W.noneFrozen (p ++ [])) :
    (∃ d, ds = [d]) ∧ Calls Try.prog 3 args W fun e w' => e = .returned (.bool true) ∧ RowKit.Below W.heap.size W w' := by
  rw [Try.params3] at hA hval
  obtain ⟨v0, vs0, d0, ds0, p0, q0, hargs, rfl, rfl, h0, r0⟩ := trodAll_cons hA
  obtain ⟨rfl, rfl, rfl⟩ := trodAll_nil r0
  obtain rfl : args = #[v0] := by cases args; simp_all
  obtain ⟨a0, rfl, rfl, rfl, w0⟩ := Go.ChangeMaps.open_string Try.underlying9 (hval 0 9 v0 rfl rfl) h0
  refine ⟨⟨_, rfl⟩, ?_⟩
  have h := ladinglaw01_OctetOnce.sound 10 a0 (fun _ => none) _ (OctetOnce_wp (by omega) a0 (fun _ => none)) W (fun b o hb => by cases hb)
  refine h.mono ?_
  rintro e w' ⟨v, H', rfl, st, q, rfl, rfl⟩
  exact ⟨rfl, st.below fun b o hb => by cases hb⟩
end Go.Proofs.Ytpnbehgkbfhacaa.K
