/- What the functions of package octet come to. -/
import Derived.Test.YtknhlipealekoaaDoorLib
import Derived.Test.YtknhlipealekoaaDoorGoctet
set_option linter.unusedVariables false
set_option linter.unusedSimpArgs false
namespace Go.Proofs.YtknhlipealekoaaDoor.K
open Go

/-! ### the plain functions -/
/-- A short number's bytes. -/
def shortL (x : Nat) : List UInt8 := if x < 128 then [UInt8.ofNat x] else UInt8.ofNat (x % 128 + 128) :: shortL (x / 128)
termination_by x
inductive Rd where
  | ok (x n : Nat)
  | form
  | cut
/-- Reading a short number. -/
def readL : List UInt8 → Nat → Nat → Rd
  | [], _, _ => .cut
  | c :: l, i, acc =>
    if 128 ≤ c.toNat then (if i = 7 then .form else readL l (i + 1) (acc + c.toNat % 128 * 128 ^ i))
    else if c.toNat = 0 ∧ 0 < i then .form else .ok (acc + c.toNat * 128 ^ i) (i + 1)

/-! ### there, fault -/
theorem there_spec {F : Nat} {s : ByteArray} {p : Int} {H : SH} {K : Bool → SH → Prop} (h : K (decide (0 ≤ p ∧ p ≤ s.size)) H) : octet_there.wp F s p H K := by
  refine ⟨fun h0 => ⟨H, .refl H, ?_⟩, fun h0 => ⟨H, .refl H, ?_⟩⟩
  · simpa [show 0 ≤ p from h0] using h
  · have : ¬ (0 ≤ p ∧ p ≤ s.size) := fun h' => h0 h'.1
    rw [decide_eq_false this] at h; exact h
theorem fault_spec {F : Nat} {p : Int} {e : Option EV} {H : SH} {K : Option EV → SH → Prop} (h : K (some (EV.mk p e)) H) : octet_fault.wp F p e H K := ⟨H, .refl H, h⟩

/-! ### short -/
theorem u8cell {x : Nat} (h : x ≤ 255) : (Value.int .u8 (x : Int)) = .int .u8 ((UInt8.ofNat x).toNat : Int) := by
  rw [UInt8.toNat_ofNat_of_lt' (by show x < 256; omega)]
theorem cellMore {x : Nat} (h : x ≤ 9223372036854775807) : [Value.int .u8 (IntKind.u8.wrap (ibits .or .i64 (ibits .and .i64 (x : Int) 127) 128))] = byteCells [UInt8.ofNat (x % 128 + 128)] := by
  have h1 : ibits .and .i64 (x : Int) 127 = ((x % 128 : Nat) : Int) := by
    rw [ibits_and (by omega) (by omega) (by omega) (by omega)]; simp only [Int.toNat_natCast]; congr 1; exact and127 x
  have h2 : ibits .or .i64 ((x % 128 : Nat) : Int) 128 = ((x % 128 + 128 : Nat) : Int) := by
    rw [ibits_or (by omega) (by omega) (by omega) (by omega)]; simp only [Int.toNat_natCast]; congr 1; exact or128 (by omega)
  rw [h1, h2, u8_id (by omega), u8cell (by omega)]; rfl
theorem cellLast {x : Nat} (h : x < 128) : [Value.int .u8 (IntKind.u8.wrap (x : Int))] = byteCells [UInt8.ofNat x] := by
  rw [u8_id (by omega), u8cell (by omega)]; rfl
theorem byteCells_append (a b : List UInt8) : byteCells a ++ byteCells b = byteCells (a ++ b) := by simp [byteCells]
theorem byteCells_one (b : List UInt8) : ∀ u ∈ byteCells b, u.oneCell' = true := by
  intro u hu; simp [byteCells] at hu; obtain ⟨c, _, rfl⟩ := hu; rfl
theorem byteCells_len (b : List UInt8) : (byteCells b).length = b.length := by simp [byteCells]
theorem shortL_one {x : Nat} (h : x < 128) : shortL x = [UInt8.ofNat x] := by unfold shortL; rw [if_pos h]
theorem shortL_more {x : Nat} (h : ¬ x < 128) : shortL x = UInt8.ofNat (x % 128 + 128) :: shortL (x / 128) := by rw [shortL]; rw [if_neg h]
/-! ### Turn, Back -/
def turnZ (x : Int) : Int := if x < 0 then -2 * x - 1 else 2 * x
def backZ (x : Int) : Int := if x % 2 = 1 then -(x / 2) - 1 else x / 2
theorem turnZ_range {x : Int} (h0 : -36028797018963968 ≤ x) (h1 : x < 36028797018963968) : 0 ≤ turnZ x ∧ turnZ x ≤ 72057594037927935 := by
  unfold turnZ; split <;> omega
theorem back_turn (x : Int) : backZ (turnZ x) = x := by
  unfold turnZ backZ; split <;> split <;> omega
/-! ### Short -/
theorem drop_cons {l : List UInt8} {i : Nat} (h : i < l.length) : l.drop i = l[i] :: l.drop (i + 1) := List.drop_eq_getElem_cons h
theorem step7 {acc i : Nat} (hi : i ≤ 7) (ha : acc < 128 ^ i) (c : Nat) (hc : c < 128) : ibits .or .i64 (acc : Int) (ishl .i64 (w64 (c : Int)) (w64 (7 * (i : Int)))) = ((acc + c * 128 ^ i : Nat) : Int) := by
  have hp : (128 : Nat) ^ i = 2 ^ (7 * i) := by rw [Nat.pow_mul]
  have h7 : (2 : Nat) ^ (7 * i) ≤ 2 ^ 49 := Nat.pow_le_pow_right (by omega) (by omega)
  have hcm : c * 2 ^ (7 * i) ≤ 127 * 2 ^ (7 * i) := Nat.mul_le_mul_right _ (by omega)
  have h49 : (2 : Nat) ^ 49 = 562949953421312 := by decide
  rw [w64_id (x := (c : Int)) (by omega), w64_id (x := 7 * (i : Int)) (by omega), show (7 * (i : Int)) = ((7 * i : Nat) : Int) by omega, ishl_eq (by omega)]
  have e1 : ((c : Int) * 2 ^ (7 * i)) = ((c * 2 ^ (7 * i) : Nat) : Int) := by push_cast; rfl
  rw [e1, w64_id (by omega)]
  rw [hp] at ha ⊢
  rw [ibits_or (by omega) (by omega) (by omega) (by omega)]
  simp only [Int.toNat_natCast]
  rw [or_shift ha]
theorem and127u {c : UInt8} : ibits .and .u8 (c.toNat : Int) 127 = ((c.toNat % 128 : Nat) : Int) := by
  have := c.toNat_lt
  rw [ibits_and8 (by omega) (by omega) (by omega) (by omega)]; simp only [Int.toNat_natCast]; congr 1; exact and127 _
def RdK (K : Int → Int → Option EV → SH → Prop) (s : ByteArray) (p : Int) (H : SH) : Rd → Prop
  | .ok x n => K x (p + n) none H
  | .form => K 0 p (some (EV.mk p (some (.no 4)))) H
  | .cut => K 0 p (some (EV.mk s.size (some (.no 3)))) H
/-! ### numbers and their bytes -/
theorem readL_shortL : ∀ (m x i acc : Nat) (rest : List UInt8), x < 128 ^ (m + 1) → i + m ≤ 7 → (x = 0 → i = 0) → readL (shortL x ++ rest) i acc = .ok (acc + x * 128 ^ i) (i + (shortL x).length) := by
  intro m
  induction m with
  | zero =>
    intro x i acc rest hx hi h0
    have hx' : x < 128 := by simpa using hx
    have hu : (UInt8.ofNat x).toNat = x := UInt8.toNat_ofNat_of_lt' (by show x < 256; omega)
    rw [shortL_one hx']
    simp only [List.cons_append, List.nil_append, readL, hu, List.length_cons, List.length_nil]
    rw [if_neg (by omega), if_neg (by omega)]
  | succ m ih =>
    intro x i acc rest hx hi h0
    by_cases hx' : x < 128
    · have hu : (UInt8.ofNat x).toNat = x := UInt8.toNat_ofNat_of_lt' (by show x < 256; omega)
      rw [shortL_one hx']
      simp only [List.cons_append, List.nil_append, readL, hu, List.length_cons, List.length_nil]
      rw [if_neg (by omega), if_neg (by omega)]
    · have hu : (UInt8.ofNat (x % 128 + 128)).toNat = x % 128 + 128 := UInt8.toNat_ofNat_of_lt' (by show _ < 256; omega)
      rw [shortL_more hx']
      simp only [List.cons_append, readL, hu, List.length_cons]
      rw [if_pos (by omega), if_neg (by omega), ih (x / 128) (i + 1) _ rest (by rw [Nat.pow_succ] at hx; omega) (by omega) (by omega)]
      have e1 : (x % 128 + 128) % 128 = x % 128 := by omega
      have e2 : acc + x % 128 * 128 ^ i + x / 128 * 128 ^ (i + 1) = acc + x * 128 ^ i := by
        rw [Nat.pow_succ, Nat.mul_comm (128 ^ i) 128, ← Nat.mul_assoc, Nat.add_assoc, ← Nat.add_mul]
        congr 2; omega
      rw [e1, e2]; congr 1; omega
theorem readL_short {x : Nat} (hx : x ≤ 72057594037927935) (rest : List UInt8) : readL (shortL x ++ rest) 0 0 = .ok x (shortL x).length := by
  rw [readL_shortL 7 x 0 0 rest (by have : (128 : Nat) ^ (7 + 1) = 72057594037927936 := by decide
                                    omega) (by omega) (by omega)]
  simp
/-- Bytes that are read are just those that are written. -/
theorem shortL_readL : ∀ (l : List UInt8) (i acc x n : Nat), readL l i acc = .ok x n → i ≤ 7 → ∃ y m, x = acc + y * 128 ^ i ∧ y < 128 ^ (8 - i) ∧ shortL y = l.take m ∧ n = i + m ∧ m ≤ l.length ∧ 0 < m ∧ (0 < i → 0 < y) := by
  intro l
  induction l with
  | nil => intro i acc x n h; simp [readL] at h
  | cons c l ih =>
    intro i acc x n h hi
    have hc := c.toNat_lt
    rw [readL] at h
    by_cases h1 : 128 ≤ c.toNat
    · rw [if_pos h1] at h
      by_cases h7 : i = 7
      · rw [if_pos h7] at h; cases h
      · rw [if_neg h7] at h
        obtain ⟨y, m, e1, e2, e3, e4, e5, e6, e7⟩ := ih _ _ _ _ h (by omega)
        have hy := e7 (by omega)
        refine ⟨c.toNat % 128 + y * 128, m + 1, ?_, ?_, ?_, by omega, by simp; omega, by omega, fun _ => by omega⟩
        · rw [e1, Nat.pow_succ, Nat.add_mul, Nat.mul_comm (128 ^ i) 128, Nat.mul_assoc]; omega
        · have : 8 - i = (8 - (i + 1)) + 1 := by omega
          rw [this, Nat.pow_succ]; omega
        · rw [shortL_more (by omega), show (c.toNat % 128 + y * 128) / 128 = y by omega, e3]
          simp only [List.take_succ_cons]
          congr 1
          rw [show (c.toNat % 128 + y * 128) % 128 + 128 = c.toNat by omega]
          exact UInt8.ofNat_toNat
    · rw [if_neg h1] at h
      by_cases h0 : c.toNat = 0 ∧ 0 < i
      · rw [if_pos h0] at h; cases h
      · rw [if_neg h0] at h
        injection h with e1 e2
        refine ⟨c.toNat, 1, e1.symm, ?_, ?_, by omega, by simp, by omega, by omega⟩
        · have : (128 : Nat) ^ 1 ≤ 128 ^ (8 - i) := Nat.pow_le_pow_right (by omega) (by omega)
          omega
        · rw [shortL_one (by omega)]; simp
theorem shortL_read {l : List UInt8} {x n : Nat} (h : readL l 0 0 = .ok x n) : x ≤ 72057594037927935 ∧ shortL x = l.take n ∧ n ≤ l.length ∧ 0 < n := by
  obtain ⟨y, m, e1, e2, e3, e4, e5, e6, _⟩ := shortL_readL l 0 0 x n h (by omega)
  have : (128 : Nat) ^ (8 - 0) = 72057594037927936 := by decide
  obtain rfl : x = y := by simpa using e1
  obtain rfl : n = m := by omega
  exact ⟨by omega, e3, e5, e6⟩

/-! ### Turned -/
def RdT (K : Int → Int → Option EV → SH → Prop) (s : ByteArray) (p : Int) (H : SH) : Rd → Prop
  | .ok x n => K (backZ x) (p + n) none H
  | .form => K 0 p (some (EV.mk p (some (.no 4)))) H
  | .cut => K 0 p (some (EV.mk s.size (some (.no 3)))) H
end Go.Proofs.YtknhlipealekoaaDoor.K
