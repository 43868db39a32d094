/- The laws OctetFixed and OctetShort: numbers are written as the document says, and read again. -/
import Derived.Test.YtpnbehgkbfhacaaDoorSpecRef
import Derived.Test.YtpnbehgkbfhacaaDoorGlaw01
import Derived.Test.YtpnbehgkbfhacaaDoorApi2
import Derived.Test.YtpnbehgkbfhacaaDoorArgs
set_option linter.unusedVariables false
set_option linter.unusedSimpArgs false
namespace Go.Proofs.YtpnbehgkbfhacaaDoor.K
open Go
theorem Code_spec {F : Nat} {e : Option EV} {H : SH} {K : Int → SH → Prop} (hg : H.has (0, 0) (rtv 24)) (h : K (codeV e) H) : api_Code.wp F e H K := ⟨hg, h⟩
theorem Place_spec {F : Nat} {e : Option EV} {H : SH} {K : Int → SH → Prop} (hg : H.has (0, 0) (rtv 24)) (h : K (placeV e) H) : api_Place.wp F e H K := ⟨hg, h⟩
theorem awakeD01_spec {F : Nat} (hF : 10 ≤ F) {H : SH} {K : Bool → SH → Prop} (h : K true H) : ladinglaw01_awake.wp F H K := by
  have h1 : ofL (shortL 300) = (⟨#[172, 2]⟩ : ByteArray) := by
    rw [shortL_more (by omega), shortL_one (by omega)]; rfl
  refine PutShort_spec (x := 300) hF (by omega) (br_t h1 (o_none (Turn_spec (by omega) (by omega) ⟨H, .refl H, ?_⟩)))
  exact h
theorem OctetFixed_wp {F : Nat} (hF : 10 ≤ F) (n x : Int) (s : ByteArray) {H : SH} (hg : H.has (0, 0) (rtv 24)) (hx : x ≤ 9223372036854775807) : ladinglaw01_OctetFixed.wp F n x s H (fun b _ => b = true) := by
  refine awakeD01_spec hF (br_t rfl ⟨fun c => ⟨H, .refl H, rfl⟩, fun hs => ?_⟩)
  by_cases hn : n < 1 ∨ n > 7
  · refine PutFixed_bad1 hn ?_
    have key : ∀ {A : Prop}, (ByteArray.empty = ByteArray.empty → api_Code.wp F (some (EV.no 1)) H (fun x13 H14 => (x13 = 1 → api_Place.wp F (some (EV.no 1)) H14 (fun x16 H17 => ∃ Hr, SH.le Hr H17 ∧ (x16 == (-1)) = true)) ∧ (¬ (x13 = 1) → ∃ Hr, SH.le Hr H14 ∧ false = true))) ∧ (¬ (ByteArray.empty = ByteArray.empty) → A) :=
      br_t rfl (Code_spec hg (br_t rfl (Place_spec hg ⟨H, .refl H, rfl⟩)))
    exact ⟨fun _ => key, fun c => ⟨fun _ => key, fun c2 => absurd hn (by omega)⟩⟩
  · obtain ⟨n, rfl⟩ : ∃ m : Nat, n = m := ⟨n.toNat, by omega⟩
    by_cases hf : 0 ≤ x ∧ x < (256 ^ n : Nat)
    · obtain ⟨x, rfl⟩ : ∃ m : Nat, x = m := ⟨x.toNat, by omega⟩
      refine PutFixed_spec hF (by omega) (by omega) (by omega) (br_f (by omega) (br_f (by omega) (Fits_spec (by omega) hF ?_)))
      rw [decide_eq_true hf]
      have hl := fixL_len n x
      refine br_t rfl ⟨by rw [ofL_size, hl]; omega, ?_, ?_⟩
      · show (s ++ ofL (fixL n x)).size + 4 ≤ _
        rw [← bs_len, bs_append, List.length_append, bs_len, bs_ofL, hl]; omega
      · have hb : bs (s ++ ofL (fixL n x) ++ (⟨#[109, 111, 114, 101]⟩ : ByteArray)) = bs s ++ (fixL n x ++ [109, 111, 114, 101]) := by
          rw [bs_append, bs_append, bs_ofL, List.append_assoc]; rfl
        have hsz : (s ++ ofL (fixL n x) ++ (⟨#[109, 111, 114, 101]⟩ : ByteArray)).size = s.size + (n + 4) := by
          rw [← bs_len, hb, List.length_append, List.length_append, hl, bs_len]; rfl
        refine Fixed_spec hF (by omega) (by omega) (by omega) (by omega) ?_
        unfold RdF
        rw [if_pos (by omega), hb]
        have e1 : ((bs s ++ (fixL n x ++ [109, 111, 114, 101])).drop s.size).take n = fixL n x := by
          rw [← bs_len, List.drop_left, List.take_append_of_le_length (by omega), List.take_of_length_le (by omega)]
        rw [e1, fixV_fixL n x (by omega)]
        refine refFixed_spec (by omega) (by omega) hF ?_
        refine br_t rfl (o_none (br_t rfl (br_t ?_ (o_none ⟨H, .refl H, rfl⟩))))
        rw [w64_id (by omega)]; omega
    · refine PutFixed_bad2 (by omega) (by omega) (by omega) (br_f (by omega) (br_f (by omega) (Fits_spec (by omega) hF ?_)))
      rw [decide_eq_false hf]
      exact br_f (by simp) (br_t rfl (Code_spec hg (br_t rfl (Place_spec hg ⟨H, .refl H, rfl⟩))))
set_option maxRecDepth 100000 in
open Go.RowKit Go.ChangeShapes Go.WideShapes Go.ChangeAt in
theorem OctetFixed_walk {X : Prop} {H : Type} {enc : TypeId × Value → H} (W : World) (args : Array Value) (ds : List (DataW H)) (p : List MemPlace) (base : Nat)
    (hval : ∀ (j : Nat) t v, Tryd.f3.params[j]? = some t → args[j]? = some v → Value.okWide Tryd.prog W .any base t v) (hA : DataW.TrodAll enc Tryd.prog W 0 (fun _ => true) true Tryd.f3.params.toList args.toList ds p) (hfz : X)
    (hg : W.cell? ⟨0, 0, none⟩ = some (rtv 24)) :
    (∃ d d2 d3, ds = [d, d2, d3]) ∧ Calls Tryd.prog 3 args W fun e w' => e = .returned (.bool true) ∧ RowKit.Below W.heap.size W w' := by
  rw [Tryd.params3] at hA hval
  obtain ⟨v0, vs0, d0, ds0, p0, q0, hargs, rfl, rfl, h0, r0⟩ := trodAll_cons hA
  obtain ⟨v1, vs1, d1, ds1, p1, q1, rfl, rfl, rfl, h1, r1⟩ := trodAll_cons r0
  obtain ⟨v2, vs2, d2, ds2, p2, q2, rfl, rfl, rfl, h2, r2⟩ := trodAll_cons r1
  obtain ⟨rfl, rfl, rfl⟩ := trodAll_nil r2
  obtain rfl : args = #[v0, v1, v2] := by cases args; simp_all
  obtain ⟨n, rfl, rfl, rfl, hn⟩ := open_int Tryd.underlying3 (hval 0 3 v0 rfl rfl) h0
  obtain ⟨x, rfl, rfl, rfl, hx⟩ := open_int Tryd.underlying3 (hval 1 3 v1 rfl rfl) h1
  obtain ⟨s, rfl, rfl, rfl, hs⟩ := Go.ChangeMaps.open_string Tryd.underlying9 (hval 2 9 v2 rfl rfl) h2
  have hx' := lit_range hx
  refine ⟨⟨_, _, _, rfl⟩, ?_⟩
  have h := ladinglaw01_OctetFixed.sound 10 n x s (SH.of W) _ (OctetFixed_wp (by omega) n x s (SH.of_cell (p := (0, 0)) hg) hx'.2) W (SH.of_sat W)
  refine h.mono ?_
  rintro e w' ⟨v, H', rfl, st, q, rfl, rfl⟩
  exact ⟨rfl, st.below fun b o hb => SH.of_ro hb⟩
end Go.Proofs.YtpnbehgkbfhacaaDoor.K
