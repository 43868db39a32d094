/- PutFixed and Fixed of package octet. -/
import Derived.Test.YtknhlipealekoaaDoorSpecOctet
import Derived.Test.YtknhlipealekoaaDoorLib2
set_option linter.unusedVariables false
set_option linter.unusedSimpArgs false
namespace Go.Proofs.YtknhlipealekoaaDoor.K
open Go

def fixL : Nat → Nat → List UInt8
  | 0, _ => []
  | n + 1, x => UInt8.ofNat (x % 256) :: fixL n (x / 256)
def fixV : List UInt8 → Nat
  | [] => 0
  | c :: l => c.toNat + 256 * fixV l
theorem fixL_len : ∀ (n x : Nat), (fixL n x).length = n
  | 0, _ => rfl
  | n + 1, x => by simp [fixL, fixL_len n]
theorem fixL_get : ∀ (n x i : Nat) (h : i < (fixL n x).length), ((fixL n x)[i]).toNat = x / 256 ^ i % 256
  | 0, x, i, h => by simp [fixL] at h
  | n + 1, x, 0, h => by
    simp only [fixL, List.getElem_cons_zero, Nat.pow_zero, Nat.div_one]
    exact UInt8.toNat_ofNat_of_lt' (by show _ < 256; omega)
  | n + 1, x, i + 1, h => by
    simp only [fixL, List.getElem_cons_succ]
    rw [fixL_get n (x / 256) i (by simpa [fixL] using h), Nat.pow_succ, Nat.div_div_eq_div_mul, Nat.mul_comm (256 ^ i)]
theorem fixV_fixL : ∀ (n x : Nat), x < 256 ^ n → fixV (fixL n x) = x
  | 0, x, h => by simp at h; subst h; rfl
  | n + 1, x, h => by
    rw [Nat.pow_succ] at h
    simp only [fixL, fixV]
    rw [fixV_fixL n (x / 256) (by omega), UInt8.toNat_ofNat_of_lt' (by show _ < 256; omega)]
    omega
theorem fixV_lt : ∀ (l : List UInt8), fixV l < 256 ^ l.length
  | [] => by simp [fixV]
  | c :: l => by
    have := fixV_lt l; have := c.toNat_lt
    simp only [fixV, List.length_cons, Nat.pow_succ]; omega
theorem fixL_fixV : ∀ (l : List UInt8), fixL l.length (fixV l) = l
  | [] => rfl
  | c :: l => by
    have := c.toNat_lt
    simp only [List.length_cons, fixV, fixL]
    rw [show (c.toNat + 256 * fixV l) % 256 = c.toNat by omega, show (c.toNat + 256 * fixV l) / 256 = fixV l by omega, fixL_fixV l]
    simp
theorem fixV_snoc : ∀ (l : List UInt8) (c : UInt8), fixV (l ++ [c]) = fixV l + c.toNat * 256 ^ l.length
  | [], c => by simp [fixV]
  | d :: l, c => by
    simp only [List.cons_append, fixV, fixV_snoc l c, List.length_cons, Nat.pow_succ, Nat.mul_add]
    rw [Nat.mul_comm (256 ^ l.length) 256, Nat.mul_left_comm c.toNat]; omega
theorem fixV_take {l : List UInt8} {i : Nat} (h : i < l.length) : fixV (l.take (i + 1)) = fixV (l.take i) + (l[i]).toNat * 256 ^ i := by
  rw [List.take_succ_eq_append_getElem h, fixV_snoc, List.length_take, Nat.min_eq_left (by omega)]

theorem pow8 (i : Nat) : (2 : Nat) ^ (8 * i) = 256 ^ i := by rw [Nat.pow_mul]
theorem shr8 {x : Nat} {i : Nat} (hi : i ≤ 7) : ishr .i64 (x : Int) (w64 (8 * (i : Int))) = ((x / 256 ^ i : Nat) : Int) := by
  rw [w64_id (by omega), show 8 * (i : Int) = ((8 * i : Nat) : Int) by omega, ishr_eq (by omega) (by omega), ← pow8]
  simp

theorem PutFixed_loop {F : Nat} {K : ByteArray → Option EV → SH → Prop} {n x : Nat} (hn : n ≤ 7) (H : SH) {b : Nat} (hb : H b = none) (h : K (ofL (fixL n x)) none H) : ∀ (m i k : Nat), n - i = m → i ≤ n → m < k →
    octet_PutFixed.l1 F K k x ⟨some (b, 0), n, n⟩ n i (H.upd b ⟨cellsF n fun j => if j < i then .int .u8 ((x / 256 ^ j % 256 : Nat) : Int) else .int .u8 0, 5, false, n⟩) := by
  intro m
  induction m with
  | zero =>
    intro i k hm hi hk
    obtain ⟨k, rfl⟩ : ∃ j, k = j + 1 := ⟨k - 1, by omega⟩
    refine ⟨fun c => absurd c (by omega), fun _ => ⟨fixL n x, (fixL_len n x).symm, row_upd ?_, H, le_upd hb, h⟩⟩
    refine (byteCells_cellsF (fixL_len n x) fun j hj => ?_).symm
    have hj' : j < n := by rw [fixL_len] at hj; exact hj
    rw [if_pos (by omega), fixL_get]
  | succ m ih =>
    intro i k hm hi hk
    obtain ⟨k, rfl⟩ : ∃ j, k = j + 1 := ⟨k - 1, by omega⟩
    refine ⟨fun c => ⟨by rw [w64_id (by omega)]; omega, (b, 0), rfl, by omega, by omega, wrs_upd rfl (by simp only [cellsF_len]; omega), ?_⟩, fun c => absurd (show (i : Int) < n by omega) c⟩
    rw [setl_upd, shr8 (by omega), u8_mod]
    have e : wrl (cellsF n fun j => if j < i then .int .u8 ((x / 256 ^ j % 256 : Nat) : Int) else .int .u8 0) (0 + (i : Int).toNat * 1) [.int .u8 (((x / 256 ^ i : Nat) : Int) % 256)] = cellsF n fun j => if j < i + 1 then .int .u8 ((x / 256 ^ j % 256 : Nat) : Int) else .int .u8 0 := by
      rw [show 0 + (i : Int).toNat * 1 = i by omega, wrl_cellsF (by omega)]
      refine cellsF_congr fun j hj => ?_
      by_cases hji : j = i
      · subst hji; rw [if_pos rfl, if_pos (by omega)]; congr 1
      · rw [if_neg hji]
        by_cases hlt : j < i
        · rw [if_pos hlt, if_pos (by omega)]
        · rw [if_neg hlt, if_neg (by omega)]
    rw [e, w64_id (by omega), show (i : Int) + 1 = ((i + 1 : Nat) : Int) by omega]
    exact ih (i + 1) k (by omega) (by omega) (by omega)
theorem PutFixed_bad1 {F : Nat} {n x : Int} (h : n < 1 ∨ n > 7) {H : SH} {K : ByteArray → Option EV → SH → Prop} (hk : K ByteArray.empty (some (.no 1)) H) : octet_PutFixed.wp F n x H K :=
  ⟨fun _ => ⟨H, .refl H, hk⟩, fun c => ⟨fun _ => ⟨H, .refl H, hk⟩, fun c2 => absurd h (by omega)⟩⟩
theorem PutFixed_bad2 {F : Nat} {n : Nat} {x : Int} (h1 : 1 ≤ n) (h7 : n ≤ 7) (h : x < 0 ∨ x ≥ (256 ^ n : Nat)) {H : SH} {K : ByteArray → Option EV → SH → Prop} (hk : K ByteArray.empty (some (.no 2)) H) : octet_PutFixed.wp F n x H K := by
  refine ⟨fun c => absurd c (by omega), fun _ => ⟨fun c => absurd c (by omega), fun _ => ⟨fun _ => ⟨H, .refl H, hk⟩, fun c => ⟨by rw [w64_id (by omega)]; omega, fun _ => ⟨H, .refl H, hk⟩, fun c2 => ?_⟩⟩⟩⟩
  exfalso
  apply c2
  obtain ⟨y, rfl⟩ : ∃ y : Nat, x = y := ⟨x.toNat, by omega⟩
  rw [shr8 h7]
  have : 256 ^ n ≤ y := by omega
  have := Nat.div_pos this (Nat.pow_pos (by omega))
  omega
theorem PutFixed_spec {F : Nat} (hF : 10 ≤ F) {n x : Nat} (h1 : 1 ≤ n) (h7 : n ≤ 7) (hx : x < 256 ^ n) {H : SH} {K : ByteArray → Option EV → SH → Prop} (h : K (ofL (fixL n x)) none H) : octet_PutFixed.wp F n x H K := by
  refine ⟨fun c => absurd c (by omega), fun _ => ⟨fun c => absurd c (by omega), fun _ => ⟨fun c => absurd c (by omega), fun _ => ⟨by rw [w64_id (by omega)]; omega, fun c => ?_, fun _ => ⟨by omega, by omega, fun b hb => ?_⟩⟩⟩⟩⟩
  · exfalso
    apply c
    rw [shr8 h7, Nat.div_eq_of_lt hx]; rfl
  · have := PutFixed_loop (F := F) h7 H hb h n 0 F (by omega) (by omega) (by omega)
    rw [zeroCells_cells _ _ rfl]
    simpa using this
def RdF (K : Int → Int → Option EV → SH → Prop) (s : ByteArray) (p n : Nat) (H : SH) : Prop :=
  if p + n ≤ s.size then K (fixV (((bs s).drop p).take n)) ((p + n : Nat) : Int) none H else K 0 p (some (EV.mk s.size (some (.no 3)))) H
theorem Fixed_loop {F : Nat} {K : Int → Int → Option EV → SH → Prop} {s : ByteArray} {p n : Nat} (hn : n ≤ 7) (hs : s.size ≤ 4611686018427387904) (hp : p + n ≤ s.size) (H : SH) (h : K (fixV (((bs s).drop p).take n)) ((p + n : Nat) : Int) none H) : ∀ (m i k : Nat), n - i = m → i ≤ n → m < k →
    octet_Fixed.l1 F K k s p n (fixV (((bs s).drop p).take i) : Nat) n i H := by
  have hl : ((bs s).drop p).length = s.size - p := by rw [List.length_drop, bs_len]
  intro m
  induction m with
  | zero =>
    intro i k hm hi hk
    obtain ⟨k, rfl⟩ : ∃ j, k = j + 1 := ⟨k - 1, by omega⟩
    obtain rfl : i = n := by omega
    refine ⟨fun c => absurd c (by omega), fun _ => ⟨H, .refl H, ?_⟩⟩
    rw [w64_id (by omega), show (p : Int) + (i : Int) = ((p + i : Nat) : Int) by omega]
    exact h
  | succ m ih =>
    intro i k hm hi hk
    obtain ⟨k, rfl⟩ : ∃ j, k = j + 1 := ⟨k - 1, by omega⟩
    have hlt : p + i < (bs s).length := by rw [bs_len]; omega
    have hw : w64 ((p : Int) + (i : Int)) = ((p + i : Nat) : Int) := by rw [w64_id (by omega)]; omega
    refine ⟨fun c => ?_, fun c => absurd (show (i : Int) < n by omega) c⟩
    rw [hw]
    refine ⟨by omega, by rw [bs_len] at hlt; omega, by rw [w64_id (by omega)]; omega, ?_⟩
    rw [bt_eq hlt]
    have hu := ((bs s)[p + i]).toNat_lt
    have hget : ((bs s).drop p)[i]'(by omega) = (bs s)[p + i] := by rw [List.getElem_drop]
    have hacc : fixV (((bs s).drop p).take i) < 256 ^ i := by
      have := fixV_lt (((bs s).drop p).take i)
      rwa [List.length_take, Nat.min_eq_left (by omega)] at this
    have hpow : 256 ^ i ≤ 256 ^ 6 := Nat.pow_le_pow_right (by omega) (by omega)
    have h6 : (256 : Nat) ^ 6 = 281474976710656 := by decide
    have hmul : ((bs s)[p + i]).toNat * 256 ^ i ≤ 255 * 256 ^ i := Nat.mul_le_mul_right _ (by omega)
    have hshl : ishl .i64 (w64 (((bs s)[p + i]).toNat : Int)) (w64 (8 * (i : Int))) = ((((bs s)[p + i]).toNat * 256 ^ i : Nat) : Int) := by
      rw [w64_id (x := 8 * (i : Int)) (by omega), w64_id (by omega), show 8 * (i : Int) = ((8 * i : Nat) : Int) by omega, ishl_eq (by omega)]
      rw [show (((bs s)[p + i]).toNat : Int) * 2 ^ (8 * i) = ((((bs s)[p + i]).toNat * 256 ^ i : Nat) : Int) by rw [← pow8]; simp]
      rw [w64_id (by omega)]
    rw [hshl, ibits_or (by omega) (by omega) (by omega) (by omega)]
    simp only [Int.toNat_natCast]
    rw [← pow8 i, or_shift (by rw [pow8]; exact hacc), pow8, ← hget, ← fixV_take (by omega), w64_id (by omega), show (i : Int) + 1 = ((i + 1 : Nat) : Int) by omega]
    exact ih (i + 1) k (by omega) (by omega) (by omega)
theorem Fixed_bad {F : Nat} {s : ByteArray} {p n : Int} (hp : p < 0 ∨ p > s.size ∨ n < 1 ∨ n > 7) {H : SH} {K : Int → Int → Option EV → SH → Prop} (h : K 0 p (some (EV.mk p (some (.no 1)))) H) : octet_Fixed.wp F s p n H K := by
  refine there_spec ?_
  refine ⟨fun c => ?_, fun _ => fault_spec ⟨H, .refl H, h⟩⟩
  have := of_decide_eq_true c
  refine ⟨fun _ => fault_spec ⟨H, .refl H, h⟩, fun c1 => ⟨fun _ => fault_spec ⟨H, .refl H, h⟩, fun c2 => absurd hp (by omega)⟩⟩
theorem Fixed_spec {F : Nat} (hF : 10 ≤ F) {s : ByteArray} (hs : s.size ≤ 4611686018427387904) {p n : Nat} (hp : p ≤ s.size) (h1 : 1 ≤ n) (h7 : n ≤ 7) {H : SH} {K : Int → Int → Option EV → SH → Prop} (h : RdF K s p n H) : octet_Fixed.wp F s p n H K := by
  refine there_spec ?_
  rw [decide_eq_true (by omega)]
  refine br_t rfl (br_f (by omega) (br_f (by omega) ?_))
  rw [w64_id (by omega)]
  unfold RdF at h
  by_cases hc : p + n ≤ s.size
  · rw [if_pos hc] at h
    refine br_f (by omega) ?_
    have := Fixed_loop (F := F) h7 hs hc H h n 0 F (by omega) (by omega) (by omega)
    simpa [fixV] using this
  · rw [if_neg hc] at h
    exact br_t (by omega) (fault_spec ⟨H, .refl H, h⟩)
end Go.Proofs.YtknhlipealekoaaDoor.K
