/- The document's own functions of layer 1 (octet): power, Fits, Fixed, Short, Turn, Back. -/
import Derived.Test.YtkfbmoekghbgbaaDoorSpecFix
import Derived.Test.YtkfbmoekghbgbaaDoorGladingref01
set_option linter.unusedVariables false
set_option linter.unusedSimpArgs false
namespace Go.Proofs.YtkfbmoekghbgbaaDoor.K
open Go
theorem fixL_snoc : ∀ (n x : Nat), fixL (n + 1) x = fixL n x ++ [UInt8.ofNat (x / 256 ^ n % 256)]
  | 0, x => by simp [fixL]
  | n + 1, x => by
    show UInt8.ofNat (x % 256) :: fixL (n + 1) (x / 256) = UInt8.ofNat (x % 256) :: (fixL n (x / 256) ++ _)
    rw [fixL_snoc n (x / 256), Nat.div_div_eq_div_mul, Nat.pow_succ, Nat.mul_comm (256 ^ n)]
theorem refFixed_spec {F : Nat} {n x : Nat} (hn : n ≤ 7) (hx : x ≤ 9223372036854775807) (hF : 10 ≤ F) {H : SH} {K : ByteArray → SH → Prop} (h : K (ofL (fixL n x)) H) : ladingref01_Fixed.wp F n x H K := by
  have key : ∀ (m i k : Nat) (H' : SH), n - i = m → i ≤ n → m < k → SH.le H H' → ladingref01_Fixed.l1 F K k n ((x / 256 ^ i : Nat) : Int) (ofL (fixL i x)) i H' := by
    intro m
    induction m with
    | zero =>
      intro i k H' hm hi hk hle
      obtain ⟨k, rfl⟩ : ∃ j, k = j + 1 := ⟨k - 1, by omega⟩
      obtain rfl : i = n := by omega
      exact br_f (by omega) ⟨H, hle, h⟩
    | succ m ih =>
      intro i k H' hm hi hk hle
      obtain ⟨k, rfl⟩ : ∃ j, k = j + 1 := ⟨k - 1, by omega⟩
      refine br_t (by omega) fun b hb => ?_
      have ih' := fun H' => ih (i + 1) k H' (by omega) (by omega) (by omega)
      rw [Nat.pow_succ, ← Nat.div_div_eq_div_mul, fixL_snoc] at ih'
      have hy : x / 256 ^ i ≤ x := Nat.div_le_self _ _
      generalize x / 256 ^ i = y at hy ih' ⊢
      have hmod : (y : Int).tmod 256 = ((y % 256 : Nat) : Int) := by rw [Int.tmod_eq_emod_of_nonneg (by omega)]; omega
      have hdiv : (y : Int).tdiv 256 = ((y / 256 : Nat) : Int) := by rw [Int.tdiv_eq_ediv_of_nonneg (by omega)]; omega
      rw [hmod, hdiv, u8_id (by omega), w64_id (x := ((y / 256 : Nat) : Int)) (by omega)]
      have hcell : [Value.int .u8 ((y % 256 : Nat) : Int)] = byteCells [UInt8.ofNat (y % 256)] := by
        rw [u8cell (by omega)]; rfl
      refine ⟨[UInt8.ofNat (y % 256)], rfl, row_upd hcell, ?_, ?_⟩
      · show (ofL (fixL i x)).size + (ofL [UInt8.ofNat (y % 256)]).size ≤ _
        rw [ofL_size, ofL_size, fixL_len]; simp; omega
      · have e : ofL (fixL i x) ++ (⟨[UInt8.ofNat (y % 256)].toArray⟩ : ByteArray) = ofL (fixL i x ++ [UInt8.ofNat (y % 256)]) := by
          show ofL (fixL i x) ++ ofL [UInt8.ofNat (y % 256)] = _
          rw [ofL_append]
        rw [e, w64_id (by omega), show (i : Int) + 1 = ((i + 1 : Nat) : Int) by omega]
        exact ih' _ (hle.trans (le_upd hb))
  have := key n 0 F H (by omega) (by omega) (by omega) (.refl H)
  simp only [Nat.pow_zero, Nat.div_one] at this
  exact this
theorem refShort_spec : ∀ (m : Nat) {F : Nat} {x : Nat}, x < 128 ^ (m + 1) → x ≤ 9223372036854775807 → m < F → m ≤ 9 → ∀ {H : SH} {K : ByteArray → SH → Prop}, K (ofL (shortL x)) H → ladingref01_Short.wp F x H K := by
  intro m
  induction m with
  | zero =>
    intro F x hx hx2 hF hm H K h
    obtain ⟨F, rfl⟩ : ∃ j, F = j + 1 := ⟨F - 1, by omega⟩
    have hx' : x < 128 := by simpa using hx
    refine br_t (by omega) fun b hb => ⟨[UInt8.ofNat x], rfl, row_upd (cellLast hx'), H, le_upd hb, ?_⟩
    rw [shortL_one hx'] at h; exact h
  | succ m ih =>
    intro F x hx hx2 hF hm H K h
    obtain ⟨F, rfl⟩ : ∃ j, F = j + 1 := ⟨F - 1, by omega⟩
    by_cases hx' : x < 128
    · refine br_t (by omega) fun b hb => ⟨[UInt8.ofNat x], rfl, row_upd (cellLast hx'), H, le_upd hb, ?_⟩
      rw [shortL_one hx'] at h; exact h
    · have hmod : ((x : Int)).tmod 128 = ((x % 128 : Nat) : Int) := by rw [Int.tmod_eq_emod_of_nonneg (by omega)]; omega
      have hdiv : ((x : Int)).tdiv 128 = ((x / 128 : Nat) : Int) := by rw [Int.tdiv_eq_ediv_of_nonneg (by omega)]; omega
      refine br_f (by omega) ⟨[UInt8.ofNat (x % 128 + 128)], ?_, ofL (shortL (x / 128)), ?_, ?_, H, .refl H, ?_⟩
      · rw [hmod, w64_id (by omega), u8_id (by omega), show ((x % 128 : Nat) : Int) + 128 = ((x % 128 + 128 : Nat) : Int) by omega, u8cell (by omega)]; rfl
      · rw [hdiv, w64_id (by omega)]
        exact ih (by rw [Nat.pow_succ] at hx; omega) (by omega) (by omega) (by omega) ⟨rfl, .refl H⟩
      · have hlen : ∀ (m x : Nat), x < 128 ^ (m + 1) → (shortL x).length ≤ m + 1 := by
          intro m
          induction m with
          | zero => intro x hx; rw [shortL_one (by simpa using hx)]; simp
          | succ m ihm =>
            intro x hx
            by_cases h1 : x < 128
            · rw [shortL_one h1]; simp
            · rw [shortL_more h1, List.length_cons]
              have := ihm (x / 128) (by rw [Nat.pow_succ] at hx; omega)
              omega
        have := hlen m (x / 128) (by rw [Nat.pow_succ] at hx; omega)
        show (ofL _).size + (ofL _).size ≤ _
        rw [ofL_size, ofL_size, List.length_cons, List.length_nil]; omega
      · show K (ofL [UInt8.ofNat (x % 128 + 128)] ++ ofL (shortL (x / 128))) H
        rw [ofL_append]
        rw [shortL_more hx'] at h; exact h
end Go.Proofs.YtkfbmoekghbgbaaDoor.K
