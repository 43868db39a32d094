/- The law OctetShort: any number is written as a short one, and turned, as the document says, or refused, told so, and read again. -/
import Derived.Test.YtpnbehgkbfhacaaDoorLawOctetFixed
set_option linter.unusedVariables false
set_option linter.unusedSimpArgs false
namespace Go.Proofs.YtpnbehgkbfhacaaDoor.K
open Go
theorem RdT_ok {K : Int → Int → Option EV → SH → Prop} {s : ByteArray} {p : Int} {H : SH} {x n : Nat} (h : K (backZ x) (p + n) none H) : RdT K s p H (.ok x n) := h
theorem RdK_ok {K : Int → Int → Option EV → SH → Prop} {s : ByteArray} {p : Int} {H : SH} {x n : Nat} (h : K x (p + n) none H) : RdK K s p H (.ok x n) := h
theorem shortL_len : ∀ (m x : Nat), x < 128 ^ (m + 1) → (shortL x).length ≤ m + 1 := by
  intro m
  induction m with
  | zero => intro x hx; rw [shortL_one (by simpa using hx)]; simp
  | succ m ihm =>
    intro x hx
    by_cases h1 : x < 128
    · rw [shortL_one h1]; simp
    · rw [shortL_more h1, List.length_cons]
      have := ihm (x / 128) (by rw [Nat.pow_succ] at hx; omega)
      omega
theorem shortL_len8 {x : Nat} (h : x ≤ 72057594037927935) : (shortL x).length ≤ 8 := by
  have : (128 : Nat) ^ (7 + 1) = 72057594037927936 := by decide
  exact shortL_len 7 x (by omega)
theorem shortL_lt {x : Nat} (h : x ≤ 72057594037927935) : x < 128 ^ (7 + 1) := by
  have : (128 : Nat) ^ (7 + 1) = 72057594037927936 := by decide
  omega
theorem around {s t u : ByteArray} (hs : s.size ≤ 300) {x : Nat} (h : x ≤ 72057594037927935) (ht : t = ofL (shortL x)) (hu : u.size = 1) : readL ((bs (s ++ t ++ u)).drop s.size) 0 0 = .ok x t.size ∧ (s ++ t ++ u).size = s.size + t.size + 1 ∧ s.size + t.size ≤ 400 ∧ (s ++ t).size = s.size + t.size := by
  subst ht
  have h8 := shortL_len8 h
  have hb : bs (s ++ ofL (shortL x) ++ u) = bs s ++ (shortL x ++ bs u) := by rw [bs_append, bs_append, bs_ofL, List.append_assoc]
  have hsz : ∀ a b : ByteArray, (a ++ b).size = a.size + b.size := fun a b => by rw [← bs_len, bs_append, List.length_append, bs_len, bs_len]
  refine ⟨?_, by rw [hsz, hsz, hu], by rw [ofL_size]; omega, hsz _ _⟩
  rw [hb, ← bs_len s, List.drop_left, readL_short h, ofL_size]
theorem OctetShort_j {F : Nat} (hF : 12 ≤ F) (x : Int) (s : ByteArray) (hs : s.size ≤ 300) {H : SH} (hg : H.has (0, 0) (rtv 24)) (hx0 : -9223372036854775808 ≤ x) (hx : x ≤ 9223372036854775807) :
    (∀ (t : ByteArray) (e : Option EV), (x < -36028797018963968 ∨ x ≥ 36028797018963968 → t = ByteArray.empty ∧ e = some (.no 2)) → (-36028797018963968 ≤ x → x < 36028797018963968 → t = ofL (shortL (turnZ x).toNat) ∧ e = none) →
      ladinglaw01_OctetShort.j1 F (fun b _ => b = true) x s t e H) := by
  intro t e h1 h2
  by_cases hb : x < -36028797018963968 ∨ x ≥ 36028797018963968
  · obtain ⟨rfl, rfl⟩ := h1 hb
    have key : ∀ {A : Prop}, (ByteArray.empty = ByteArray.empty → api_Code.wp F (some (EV.no 2)) H (fun x42 H43 => (x42 = 2 → octet_Turn.wp F x H43 (fun x45 H46 => ∃ Hr, SH.le Hr H46 ∧ (x45 == 0) = true)) ∧ (¬ (x42 = 2) → ∃ Hr, SH.le Hr H43 ∧ false = true))) ∧ (¬ (ByteArray.empty = ByteArray.empty) → A) :=
      br_t rfl (Code_spec hg (br_t rfl (Turn_bad hb ⟨H, .refl H, rfl⟩)))
    exact ⟨fun _ => key, fun c => ⟨fun _ => key, fun c2 => absurd hb (by omega)⟩⟩
  · obtain ⟨ht, rfl⟩ := h2 (by omega) (by omega)
    have hr := turnZ_range (x := x) (by omega) (by omega)
    obtain ⟨z, hz⟩ : ∃ z : Nat, turnZ x = z := ⟨(turnZ x).toNat, by omega⟩
    rw [hz, Int.toNat_natCast] at ht
    rw [hz] at hr
    have hb8 : backZ (z : Int) = x := by rw [← hz, back_turn]
    obtain ⟨r1, r2, r3, r4⟩ := around (u := (⟨#[120]⟩ : ByteArray)) hs (by omega) ht rfl
    refine br_f (by omega) (br_f (by omega) ⟨by omega, ?_, ?_⟩)
    · show (s ++ t).size + 1 ≤ _
      rw [r4]; omega
    · refine Turned_spec (by omega) (by omega) (by omega) ?_
      rw [r1]
      refine RdT_ok (refTurn_spec (by omega) (by omega) ?_)
      rw [hz]
      refine refShort_spec 7 (shortL_lt (by omega)) (by omega) (by omega) (by omega) ?_
      refine br_t ht (o_none (Turn_spec (by omega) (by omega) (refTurn_spec (by omega) (by omega) (br_t rfl (Turn_spec (by omega) (by omega) ?_)))))
      rw [hz]
      refine Back_spec (by omega) (by omega) ?_
      refine br_t hb8 (br_t hb8 (br_t ?_ (o_none ⟨H, .refl H, rfl⟩)))
      rw [w64_id (by omega)]
theorem OctetShort_wp {F : Nat} (hF : 12 ≤ F) (x : Int) (s : ByteArray) {H : SH} (hg : H.has (0, 0) (rtv 24)) (hx0 : -9223372036854775808 ≤ x) (hx : x ≤ 9223372036854775807) : ladinglaw01_OctetShort.wp F x s H (fun b _ => b = true) := by
  refine awakeD01_spec (by omega) (br_t rfl ⟨fun c => ⟨H, .refl H, rfl⟩, fun hs => ?_⟩)
  have hs' : s.size ≤ 300 := by omega
  have tail : ∀ (s7 : ByteArray) (e8 : Option EV), (x < 0 ∨ x > 72057594037927935 → s7 = ByteArray.empty ∧ e8 = some (.no 2)) → (0 ≤ x → x ≤ 72057594037927935 → s7 = ofL (shortL x.toNat) ∧ e8 = none) →
      octet_PutTurned.wp F x H (fun s10 e11 H12 =>
        (x < 0 → ((s7 = ByteArray.empty) → api_Code.wp F e8 H12 (fun x15 H16 => (x15 ≠ 2 → ∃ Hr, SH.le Hr H16 ∧ false = true) ∧ (¬ (x15 ≠ 2) → ladinglaw01_OctetShort.j1 F (fun b _ => b = true) x s s10 e11 H16))) ∧ (¬ ((s7 = ByteArray.empty)) → ∃ Hr, SH.le Hr H12 ∧ false = true)) ∧
        (¬ (x < 0) → (x > 72057594037927935 → ((s7 = ByteArray.empty) → api_Code.wp F e8 H12 (fun x24 H25 => (x24 ≠ 2 → ∃ Hr, SH.le Hr H25 ∧ false = true) ∧ (¬ (x24 ≠ 2) → ladinglaw01_OctetShort.j1 F (fun b _ => b = true) x s s10 e11 H25))) ∧ (¬ ((s7 = ByteArray.empty)) → ∃ Hr, SH.le Hr H12 ∧ false = true)) ∧
          (¬ (x > 72057594037927935) → s.size + s7.size ≤ 9223372036854775807 ∧ (s ++ s7).size + (⟨#[120]⟩ : ByteArray).size ≤ 9223372036854775807 ∧
            octet_Short.wp F ((s ++ s7) ++ (⟨#[120]⟩ : ByteArray)) (s.size : Int) H12 (fun x29 x30 e31 H32 => ladingref01_Short.wp F x H32 (fun s33 H34 =>
              ((s7 = s33) → (e8 = none → (x29 ≠ x → ∃ Hr, SH.le Hr H34 ∧ false = true) ∧ (¬ (x29 ≠ x) → (x30 ≠ (w64 ((s.size : Int) + (s7.size : Int))) → ∃ Hr, SH.le Hr H34 ∧ false = true) ∧ (¬ (x30 ≠ (w64 ((s.size : Int) + (s7.size : Int)))) →
                (e31 = none → ladinglaw01_OctetShort.j1 F (fun b _ => b = true) x s s10 e11 H34) ∧ (∀ v39, e31 = some v39 → ∃ Hr, SH.le Hr H34 ∧ false = true)))) ∧ (∀ v36, e8 = some v36 → ∃ Hr, SH.le Hr H34 ∧ false = true)) ∧ (¬ ((s7 = s33)) → ∃ Hr, SH.le Hr H34 ∧ false = true)))))) := by
    intro s7 e8 k1 k2
    have hj := OctetShort_j hF x s hs' hg hx0 hx
    rcases Classical.em (x < -36028797018963968 ∨ x ≥ 36028797018963968) with hb | hb
    case' inl =>
      refine PutTurned_bad hb ?_
      have hjj := hj _ _ (fun _ => ⟨rfl, rfl⟩) fun a b => absurd hb (by omega)
    case' inr =>
      refine PutTurned_spec (by omega) (by omega) (by omega) ?_
      have hjj := hj _ _ (fun a => absurd a hb) fun _ _ => ⟨rfl, rfl⟩
    all_goals
      clear hb
      by_cases hb : x < 0 ∨ x > 72057594037927935
      · obtain ⟨rfl, rfl⟩ := k1 hb
        refine ⟨fun _ => br_t rfl (Code_spec hg (br_f (by simp [codeV, codeE]) hjj)), fun c => ⟨fun _ => br_t rfl (Code_spec hg (br_f (by simp [codeV, codeE]) hjj)), fun c2 => absurd hb (by omega)⟩⟩
      · obtain ⟨ht, rfl⟩ := k2 (by omega) (by omega)
        obtain ⟨z, rfl⟩ : ∃ z : Nat, x = z := ⟨x.toNat, by omega⟩
        rw [Int.toNat_natCast] at ht
        obtain ⟨r1, r2, r3, r4⟩ := around (u := (⟨#[120]⟩ : ByteArray)) hs' (by omega) ht rfl
        refine br_f (by omega) (br_f (by omega) ⟨by omega, ?_, ?_⟩)
        · show (s ++ s7).size + 1 ≤ _
          rw [r4]; omega
        · refine Short_spec (by omega) (by omega) (by omega) ?_
          rw [r1]
          refine RdK_ok (refShort_spec 7 (shortL_lt (by omega)) (by omega) (by omega) (by omega) ?_)
          refine br_t ht (o_none (br_f (by simp) (br_f ?_ (o_none hjj))))
          rw [w64_id (by omega)]; simp
  by_cases hb : x < 0 ∨ x > 72057594037927935
  · exact PutShort_bad hb (tail _ _ (fun _ => ⟨rfl, rfl⟩) fun a b => absurd hb (by omega))
  · obtain ⟨z, rfl⟩ : ∃ z : Nat, x = z := ⟨x.toNat, by omega⟩
    exact PutShort_spec (by omega) (by omega) (tail _ _ (fun a => absurd a hb) fun _ _ => ⟨by rw [Int.toNat_natCast], rfl⟩)
set_option maxRecDepth 100000 in
open Go.RowKit Go.ChangeShapes Go.WideShapes Go.ChangeAt in
theorem OctetShort_walk {X : Prop} {H : Type} {enc : TypeId × Value → H} (W : World) (args : Array Value) (ds : List (DataW H)) (p : List MemPlace) (base : Nat)
    (hval : ∀ (j : Nat) t v, Tryd.f4.params[j]? = some t → args[j]? = some v → Value.okWide Tryd.prog W .any base t v) (hA : DataW.TrodAll enc Tryd.prog W 0 (fun _ => true) true Tryd.f4.params.toList args.toList ds p) (hfz : X)
    (hg : W.cell? ⟨0, 0, none⟩ = some (rtv 24)) :
    (∃ d d2, ds = [d, d2]) ∧ Calls Tryd.prog 4 args W fun e w' => e = .returned (.bool true) ∧ RowKit.Below W.heap.size W w' := by
  rw [Tryd.params4] at hA hval
  obtain ⟨v1, vs1, d1, ds1, p1, q1, hargs, rfl, rfl, h1, r1⟩ := trodAll_cons hA
  obtain ⟨v2, vs2, d2, ds2, p2, q2, rfl, rfl, rfl, h2, r2⟩ := trodAll_cons r1
  obtain ⟨rfl, rfl, rfl⟩ := trodAll_nil r2
  obtain rfl : args = #[v1, v2] := by cases args; simp_all
  obtain ⟨x, rfl, rfl, rfl, hx⟩ := open_int Tryd.underlying3 (hval 0 3 v1 rfl rfl) h1
  obtain ⟨s, rfl, rfl, rfl, hs⟩ := Go.ChangeMaps.open_string Tryd.underlying9 (hval 1 9 v2 rfl rfl) h2
  have hx' := lit_range hx
  refine ⟨⟨_, _, rfl⟩, ?_⟩
  have h := ladinglaw01_OctetShort.sound 12 x s (SH.of W) _ (OctetShort_wp (by omega) x s (SH.of_cell (p := (0, 0)) hg) hx'.1 hx'.2) W (SH.of_sat W)
  refine h.mono ?_
  rintro e w' ⟨v, H', rfl, st, q, rfl, rfl⟩
  exact ⟨rfl, st.below fun b o hb => SH.of_ro hb⟩
end Go.Proofs.YtpnbehgkbfhacaaDoor.K
