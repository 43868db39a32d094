/- The document's own functions of layer 1 (octet): power, Fits, Fixed, Short, Turn, Back. -/
import Derived.Test.YtpnbehgkbfhacaaDoorSpecFix
import Derived.Test.YtpnbehgkbfhacaaDoorGref
set_option linter.unusedVariables false
set_option linter.unusedSimpArgs false
namespace Go.Proofs.YtpnbehgkbfhacaaDoor.K
open Go
theorem power_spec {F : Nat} {n : Nat} (hn : n ≤ 7) (hF : 10 ≤ F) {H : SH} {K : Int → SH → Prop} (h : K ((256 ^ n : Nat) : Int) H) : ladingref01_power.wp F n H K := by
  have key : ∀ (m i k : Nat), n - i = m → i ≤ n → m < k → ladingref01_power.l1 F K k n ((256 ^ i : Nat) : Int) i H := by
    intro m
    induction m with
    | zero =>
      intro i k hm hi hk
      obtain ⟨k, rfl⟩ : ∃ j, k = j + 1 := ⟨k - 1, by omega⟩
      obtain rfl : i = n := by omega
      exact br_f (by omega) ⟨H, .refl H, h⟩
    | succ m ih =>
      intro i k hm hi hk
      obtain ⟨k, rfl⟩ : ∃ j, k = j + 1 := ⟨k - 1, by omega⟩
      have hp : 256 ^ i ≤ 256 ^ 6 := Nat.pow_le_pow_right (by omega) (by omega)
      have h6 : (256 : Nat) ^ 6 = 281474976710656 := by decide
      refine br_t (by omega) ?_
      have ih' := ih (i + 1) k (by omega) (by omega) (by omega)
      rw [Nat.pow_succ] at ih'
      generalize 256 ^ i = q at hp ih' ⊢
      show ladingref01_power.l1 F K k n (w64 ((q : Int) * 256)) (w64 ((i : Int) + 1)) H
      rw [w64_id (by omega), w64_id (by omega), show (q : Int) * 256 = ((q * 256 : Nat) : Int) by omega, show (i : Int) + 1 = ((i + 1 : Nat) : Int) by omega]
      exact ih'
  exact key n 0 F (by omega) (by omega) (by omega)
theorem Fits_spec {F : Nat} {n : Nat} (hn : n ≤ 7) (hF : 10 ≤ F) {x : Int} {H : SH} {K : Bool → SH → Prop} (h : K (decide (0 ≤ x ∧ x < (256 ^ n : Nat))) H) : ladingref01_Fits.wp F n x H K := by
  refine ⟨fun c => power_spec hn hF ⟨H, .refl H, ?_⟩, fun c => ⟨H, .refl H, ?_⟩⟩
  · simpa [show 0 ≤ x from c] using h
  · rw [decide_eq_false (fun h' => c h'.1)] at h; exact h
theorem fixL_snoc : ∀ (n x : Nat), fixL (n + 1) x = fixL n x ++ [UInt8.ofNat (x / 256 ^ n % 256)]
  | 0, x => by simp [fixL]
  | n + 1, x => by
    show UInt8.ofNat (x % 256) :: fixL (n + 1) (x / 256) = UInt8.ofNat (x % 256) :: (fixL n (x / 256) ++ _)
    rw [fixL_snoc n (x / 256), Nat.div_div_eq_div_mul, Nat.pow_succ, Nat.mul_comm (256 ^ n)]
theorem refFixed_spec {F : Nat} {n x : Nat} (hn : n ≤ 7) (hx : x ≤ 9223372036854775807) (hF : 10 ≤ F) {H : SH} {K : ByteArray → SH → Prop} (h : K (ofL (fixL n x)) H) : ladingref01_Fixed.wp F n x H K := by
  have key : ∀ (m i k : Nat) (H' : SH), n - i = m → i ≤ n → m < k → SH.le H H' → ladingref01_Fixed.l1 F K k n ((x / 256 ^ i : Nat) : Int) (ofL (fixL i x)) i H' := by
    intro m
    induction m with
    | zero =>
      intro i k H' hm hi hk hle
      obtain ⟨k, rfl⟩ : ∃ j, k = j + 1 := ⟨k - 1, by omega⟩
      obtain rfl : i = n := by omega
      exact br_f (by omega) ⟨H, hle, h⟩
    | succ m ih =>
      intro i k H' hm hi hk hle
      obtain ⟨k, rfl⟩ : ∃ j, k = j + 1 := ⟨k - 1, by omega⟩
      refine br_t (by omega) fun b hb => ?_
      have ih' := fun H' => ih (i + 1) k H' (by omega) (by omega) (by omega)
      rw [Nat.pow_succ, ← Nat.div_div_eq_div_mul, fixL_snoc] at ih'
      have hy : x / 256 ^ i ≤ x := Nat.div_le_self _ _
      generalize x / 256 ^ i = y at hy ih' ⊢
      have hmod : (y : Int).tmod 256 = ((y % 256 : Nat) : Int) := by rw [Int.tmod_eq_emod_of_nonneg (by omega)]; omega
      have hdiv : (y : Int).tdiv 256 = ((y / 256 : Nat) : Int) := by rw [Int.tdiv_eq_ediv_of_nonneg (by omega)]; omega
      rw [hmod, hdiv, u8_id (by omega), w64_id (x := ((y / 256 : Nat) : Int)) (by omega)]
      have hcell : [Value.int .u8 ((y % 256 : Nat) : Int)] = byteCells [UInt8.ofNat (y % 256)] := by
        rw [u8cell (by omega)]; rfl
      refine ⟨[UInt8.ofNat (y % 256)], rfl, row_upd hcell, ?_, ?_⟩
      · show (ofL (fixL i x)).size + (ofL [UInt8.ofNat (y % 256)]).size ≤ _
        rw [ofL_size, ofL_size, fixL_len]; simp; omega
      · have e : ofL (fixL i x) ++ (⟨[UInt8.ofNat (y % 256)].toArray⟩ : ByteArray) = ofL (fixL i x ++ [UInt8.ofNat (y % 256)]) := by
          show ofL (fixL i x) ++ ofL [UInt8.ofNat (y % 256)] = _
          rw [ofL_append]
        rw [e, w64_id (by omega), show (i : Int) + 1 = ((i + 1 : Nat) : Int) by omega]
        exact ih' _ (hle.trans (le_upd hb))
  have := key n 0 F H (by omega) (by omega) (by omega) (.refl H)
  simp only [Nat.pow_zero, Nat.div_one] at this
  exact this
theorem refShort_spec : ∀ (m : Nat) {F : Nat} {x : Nat}, x < 128 ^ (m + 1) → x ≤ 9223372036854775807 → m < F → m ≤ 9 → ∀ {H : SH} {K : ByteArray → SH → Prop}, K (ofL (shortL x)) H → ladingref01_Short.wp F x H K := by
  intro m
  induction m with
  | zero =>
    intro F x hx hx2 hF hm H K h
    obtain ⟨F, rfl⟩ : ∃ j, F = j + 1 := ⟨F - 1, by omega⟩
    have hx' : x < 128 := by simpa using hx
    refine br_t (by omega) fun b hb => ⟨[UInt8.ofNat x], rfl, row_upd (cellLast hx'), H, le_upd hb, ?_⟩
    rw [shortL_one hx'] at h; exact h
  | succ m ih =>
    intro F x hx hx2 hF hm H K h
    obtain ⟨F, rfl⟩ : ∃ j, F = j + 1 := ⟨F - 1, by omega⟩
    by_cases hx' : x < 128
    · refine br_t (by omega) fun b hb => ⟨[UInt8.ofNat x], rfl, row_upd (cellLast hx'), H, le_upd hb, ?_⟩
      rw [shortL_one hx'] at h; exact h
    · have hmod : ((x : Int)).tmod 128 = ((x % 128 : Nat) : Int) := by rw [Int.tmod_eq_emod_of_nonneg (by omega)]; omega
      have hdiv : ((x : Int)).tdiv 128 = ((x / 128 : Nat) : Int) := by rw [Int.tdiv_eq_ediv_of_nonneg (by omega)]; omega
      refine br_f (by omega) ⟨[UInt8.ofNat (x % 128 + 128)], ?_, ofL (shortL (x / 128)), ?_, ?_, H, .refl H, ?_⟩
      · rw [hmod, w64_id (by omega), u8_id (by omega), show ((x % 128 : Nat) : Int) + 128 = ((x % 128 + 128 : Nat) : Int) by omega, u8cell (by omega)]; rfl
      · rw [hdiv, w64_id (by omega)]
        exact ih (by rw [Nat.pow_succ] at hx; omega) (by omega) (by omega) (by omega) ⟨rfl, .refl H⟩
      · have hlen : ∀ (m x : Nat), x < 128 ^ (m + 1) → (shortL x).length ≤ m + 1 := by
          intro m
          induction m with
          | zero => intro x hx; rw [shortL_one (by simpa using hx)]; simp
          | succ m ihm =>
            intro x hx
            by_cases h1 : x < 128
            · rw [shortL_one h1]; simp
            · rw [shortL_more h1, List.length_cons]
              have := ihm (x / 128) (by rw [Nat.pow_succ] at hx; omega)
              omega
        have := hlen m (x / 128) (by rw [Nat.pow_succ] at hx; omega)
        show (ofL _).size + (ofL _).size ≤ _
        rw [ofL_size, ofL_size, List.length_cons, List.length_nil]; omega
      · show K (ofL [UInt8.ofNat (x % 128 + 128)] ++ ofL (shortL (x / 128))) H
        rw [ofL_append]
        rw [shortL_more hx'] at h; exact h
theorem refTurn_spec {F : Nat} {x : Int} (h0 : -36028797018963968 ≤ x) (h1 : x < 36028797018963968) {H : SH} {K : Int → SH → Prop} (h : K (turnZ x) H) : ladingref01_Turn.wp F x H K := by
  refine ⟨fun c => ⟨H, .refl H, ?_⟩, fun c => ⟨H, .refl H, ?_⟩⟩
  · rw [w64_id (x := 2 * x) (by omega), w64_id (x := 0 - 2 * x) (by omega), w64_id (by omega)]
    unfold turnZ at h; rw [if_pos c] at h
    rw [show 0 - 2 * x - 1 = -2 * x - 1 by omega]; exact h
  · rw [w64_id (by omega)]
    unfold turnZ at h; rw [if_neg c] at h; exact h
theorem refBack_spec {F : Nat} {x : Int} (h0 : 0 ≤ x) (h1 : x ≤ 72057594037927936) {H : SH} {K : Int → SH → Prop} (h : K (backZ x) H) : ladingref01_Back.wp F x H K := by
  have hm : x.tmod 2 = x % 2 := Int.tmod_eq_emod_of_nonneg h0
  refine ⟨fun c => ⟨H, .refl H, ?_⟩, fun c => ⟨H, .refl H, ?_⟩⟩
  · rw [hm] at c
    rw [w64_id (x := x + 1) (by omega), Int.tdiv_eq_ediv_of_nonneg (by omega), w64_id (x := (x + 1) / 2) (by omega), w64_id (by omega)]
    unfold backZ at h; rw [if_pos c] at h
    rw [show 0 - (x + 1) / 2 = -(x / 2) - 1 by omega]; exact h
  · rw [hm] at c
    rw [Int.tdiv_eq_ediv_of_nonneg (by omega), w64_id (by omega)]
    unfold backZ at h; rw [if_neg c] at h; exact h
end Go.Proofs.YtpnbehgkbfhacaaDoor.K
