/- The document's own functions of layer 1 (octet): power, Fits, Fixed, Short, Turn, Back. -/
import Derived.Test.YtknhlipealekoaaDoorSpecFix
import Derived.Test.YtknhlipealekoaaDoorGladingref01
set_option linter.unusedVariables false
set_option linter.unusedSimpArgs false
namespace Go.Proofs.YtknhlipealekoaaDoor.K
open Go
theorem fixL_snoc : ∀ (n x : Nat), fixL (n + 1) x = fixL n x ++ [UInt8.ofNat (x / 256 ^ n % 256)]
  | 0, x => by simp [fixL]
  | n + 1, x => by
    show UInt8.ofNat (x % 256) :: fixL (n + 1) (x / 256) = UInt8.ofNat (x % 256) :: (fixL n (x / 256) ++ _)
    rw [fixL_snoc n (x / 256), Nat.div_div_eq_div_mul, Nat.pow_succ, Nat.mul_comm (256 ^ n)]
theorem refFixed_spec {F : Nat} {n x : Nat} (hn : n ≤ 7) (hx : x ≤ 9223372036854775807) (hF : 10 ≤ F) {H : SH} {K : ByteArray → SH → Prop} (h : K (ofL (fixL n x)) H) : ladingref01_Fixed.wp F n x H K := by
  have key : ∀ (m i k : Nat) (H' : SH), n - i = m → i ≤ n → m < k → SH.le H H' → ladingref01_Fixed.l1 F K k n ((x / 256 ^ i : Nat) : Int) (ofL (fixL i x)) i H' := by
    intro m
    induction m with
    | zero =>
      intro i k H' hm hi hk hle
      obtain ⟨k, rfl⟩ : ∃ j, k = j + 1 := ⟨k - 1, by omega⟩
      obtain rfl : i = n := by omega
      exact br_f (by omega) ⟨H, hle, h⟩
    | succ m ih =>
      intro i k H' hm hi hk hle
      obtain ⟨k, rfl⟩ : ∃ j, k = j + 1 := ⟨k - 1, by omega⟩
      refine br_t (by omega) fun b hb => ?_
      have ih' := fun H' => ih (i + 1) k H' (by omega) (by omega) (by omega)
      rw [Nat.pow_succ, ← Nat.div_div_eq_div_mul, fixL_snoc] at ih'
      have hy : x / 256 ^ i ≤ x := Nat.div_le_self _ _
      generalize x / 256 ^ i = y at hy ih' ⊢
      have hmod : (y : Int).tmod 256 = ((y % 256 : Nat) : Int) := by rw [Int.tmod_eq_emod_of_nonneg (by omega)]; omega
      have hdiv : (y : Int).tdiv 256 = ((y / 256 : Nat) : Int) := by rw [Int.tdiv_eq_ediv_of_nonneg (by omega)]; omega
      rw [hmod, hdiv, u8_id (by omega), w64_id (x := ((y / 256 : Nat) : Int)) (by omega)]
      have hcell : [Value.int .u8 ((y % 256 : Nat) : Int)] = byteCells [UInt8.ofNat (y % 256)] := by
        rw [u8cell (by omega)]; rfl
      refine ⟨[UInt8.ofNat (y % 256)], rfl, row_upd hcell, ?_, ?_⟩
      · show (ofL (fixL i x)).size + (ofL [UInt8.ofNat (y % 256)]).size ≤ _
        rw [ofL_size, ofL_size, fixL_len]; simp; omega
      · have e : ofL (fixL i x) ++ (⟨[UInt8.ofNat (y % 256)].toArray⟩ : ByteArray) = ofL (fixL i x ++ [UInt8.ofNat (y % 256)]) := by
          show ofL (fixL i x) ++ ofL [UInt8.ofNat (y % 256)] = _
          rw [ofL_append]
        rw [e, w64_id (by omega), show (i : Int) + 1 = ((i + 1 : Nat) : Int) by omega]
        exact ih' _ (hle.trans (le_upd hb))
  have := key n 0 F H (by omega) (by omega) (by omega) (.refl H)
  simp only [Nat.pow_zero, Nat.div_one] at this
  exact this
end Go.Proofs.YtknhlipealekoaaDoor.K
