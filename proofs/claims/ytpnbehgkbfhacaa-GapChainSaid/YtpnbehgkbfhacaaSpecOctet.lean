/- What the functions of package octet come to. -/
import Derived.Test.YtpnbehgkbfhacaaLib
import Derived.Test.YtpnbehgkbfhacaaGoctet
set_option linter.unusedVariables false
set_option linter.unusedSimpArgs false
namespace Go.Proofs.Ytpnbehgkbfhacaa.K
open Go

/-! ### the plain functions -/
/-- A short number's bytes. -/
def shortL (x : Nat) : List UInt8 := if x < 128 then [UInt8.ofNat x] else UInt8.ofNat (x % 128 + 128) :: shortL (x / 128)
termination_by x
inductive Rd where
  | ok (x n : Nat)
  | form
  | cut
/-- Reading a short number. -/
def readL : List UInt8 → Nat → Nat → Rd
  | [], _, _ => .cut
  | c :: l, i, acc =>
    if 128 ≤ c.toNat then (if i = 7 then .form else readL l (i + 1) (acc + c.toNat % 128 * 128 ^ i))
    else if c.toNat = 0 ∧ 0 < i then .form else .ok (acc + c.toNat * 128 ^ i) (i + 1)

/-! ### there, fault -/
theorem there_spec {F : Nat} {s : ByteArray} {p : Int} {H : SH} {K : Bool → SH → Prop} (h : K (decide (0 ≤ p ∧ p ≤ s.size)) H) : octet_there.wp F s p H K := by
  refine ⟨fun h0 => ⟨H, .refl H, ?_⟩, fun h0 => ⟨H, .refl H, ?_⟩⟩
  · simpa [show 0 ≤ p from h0] using h
  · have : ¬ (0 ≤ p ∧ p ≤ s.size) := fun h' => h0 h'.1
    rw [decide_eq_false this] at h; exact h
theorem fault_spec {F : Nat} {p : Int} {e : Option EV} {H : SH} {K : Option EV → SH → Prop} (h : K (some (EV.mk p e)) H) : octet_fault.wp F p e H K := ⟨H, .refl H, h⟩

/-! ### short -/
theorem u8cell {x : Nat} (h : x ≤ 255) : (Value.int .u8 (x : Int)) = .int .u8 ((UInt8.ofNat x).toNat : Int) := by
  rw [UInt8.toNat_ofNat_of_lt' (by show x < 256; omega)]
theorem cellMore {x : Nat} (h : x ≤ 9223372036854775807) : [Value.int .u8 (IntKind.u8.wrap (ibits .or .i64 (ibits .and .i64 (x : Int) 127) 128))] = byteCells [UInt8.ofNat (x % 128 + 128)] := by
  have h1 : ibits .and .i64 (x : Int) 127 = ((x % 128 : Nat) : Int) := by
    rw [ibits_and (by omega) (by omega) (by omega) (by omega)]; simp only [Int.toNat_natCast]; congr 1; exact and127 x
  have h2 : ibits .or .i64 ((x % 128 : Nat) : Int) 128 = ((x % 128 + 128 : Nat) : Int) := by
    rw [ibits_or (by omega) (by omega) (by omega) (by omega)]; simp only [Int.toNat_natCast]; congr 1; exact or128 (by omega)
  rw [h1, h2, u8_id (by omega), u8cell (by omega)]; rfl
theorem cellLast {x : Nat} (h : x < 128) : [Value.int .u8 (IntKind.u8.wrap (x : Int))] = byteCells [UInt8.ofNat x] := by
  rw [u8_id (by omega), u8cell (by omega)]; rfl
theorem byteCells_append (a b : List UInt8) : byteCells a ++ byteCells b = byteCells (a ++ b) := by simp [byteCells]
theorem byteCells_one (b : List UInt8) : ∀ u ∈ byteCells b, u.oneCell' = true := by
  intro u hu; simp [byteCells] at hu; obtain ⟨c, _, rfl⟩ := hu; rfl
theorem byteCells_len (b : List UInt8) : (byteCells b).length = b.length := by simp [byteCells]
theorem shortL_one {x : Nat} (h : x < 128) : shortL x = [UInt8.ofNat x] := by unfold shortL; rw [if_pos h]
theorem shortL_more {x : Nat} (h : ¬ x < 128) : shortL x = UInt8.ofNat (x % 128 + 128) :: shortL (x / 128) := by rw [shortL]; rw [if_neg h]
theorem short_loop {F : Nat} {K : ByteArray → SH → Prop} (H0 : SH) : ∀ (m k x : Nat) (l : Sl) (b0 : List UInt8) (H : SH), Own H0 H 5 1 l (byteCells b0) → x ≤ 9223372036854775807 → x < 128 ^ (m + 1) → m < k → b0.length + m ≤ 1000 →
    K (ofL (b0 ++ shortL x)) H0 → octet_short.l1 F K k (x : Int) l H := by
  intro m
  induction m with
  | zero =>
    intro k x l b0 H ho hx hm hk hb hK
    obtain ⟨k, rfl⟩ : ∃ j, k = j + 1 := ⟨k - 1, by omega⟩
    have hlen : l.len = b0.length := by have := ho.len; rw [byteCells_len] at this; omega
    have hx' : x < 128 := by simpa using hm
    refine ⟨fun c => absurd c (by omega), fun _ => ?_⟩
    rw [cellLast hx']
    refine ho.append (by omega) (by omega) rfl (byteCells_one _) fun l' H' ho' hl' => ?_
    rw [byteCells_append] at ho'
    refine ⟨_, by rw [hl', hlen]; simp, ho'.row, H0, ho'.le, ?_⟩
    rw [shortL_one hx'] at hK; exact hK
  | succ m ih =>
    intro k x l b0 H ho hx hm hk hb hK
    obtain ⟨k, rfl⟩ : ∃ j, k = j + 1 := ⟨k - 1, by omega⟩
    have hlen : l.len = b0.length := by have := ho.len; rw [byteCells_len] at this; omega
    by_cases hx' : x < 128
    · refine ⟨fun c => absurd c (by omega), fun _ => ?_⟩
      rw [cellLast hx']
      refine ho.append (by omega) (by omega) rfl (byteCells_one _) fun l' H' ho' hl' => ?_
      rw [byteCells_append] at ho'
      refine ⟨_, by rw [hl', hlen]; simp, ho'.row, H0, ho'.le, ?_⟩
      rw [shortL_one hx'] at hK; exact hK
    · refine ⟨fun _ => ?_, fun c => absurd (show ((x : Int) ≥ 128) by omega) c⟩
      rw [cellMore hx]
      refine ho.append (by omega) (by omega) rfl (byteCells_one _) fun l' H' ho' hl' => ?_
      rw [byteCells_append] at ho'
      have hs : ishr .i64 (x : Int) 7 = ((x / 128 : Nat) : Int) := by
        rw [show (7 : Int) = ((7 : Nat) : Int) from rfl, ishr_eq (by omega) (by omega)]; omega
      show octet_short.l1 F K k (ishr .i64 (x : Int) 7) l' H'
      rw [hs]
      refine ih _ _ _ _ _ ho' (by omega) (by rw [Nat.pow_succ] at hm; omega) (by omega) (by simp; omega) ?_
      rw [shortL_more hx'] at hK
      simpa using hK
theorem short_spec {F : Nat} (hF : 10 ≤ F) {x : Nat} (hx : x ≤ 9223372036854775807) {H : SH} {K : ByteArray → SH → Prop} (h : K (ofL (shortL x)) H) : octet_short.wp F (x : Int) H K :=
  short_loop H 9 F x Sl.nil [] H (Own.nil H 5 1) hx (by have : (128 : Nat) ^ (9 + 1) = 1180591620717411303424 := by decide
                                                        omega) (by omega) (by simp) h
theorem PutShort_bad {F : Nat} {x : Int} (hx : x < 0 ∨ x > 72057594037927935) {H : SH} {K : ByteArray → Option EV → SH → Prop} (h : K ByteArray.empty (some (.no 2)) H) : octet_PutShort.wp F x H K :=
  ⟨fun _ => ⟨H, .refl H, h⟩, fun c => ⟨fun _ => ⟨H, .refl H, h⟩, fun c2 => absurd hx (by omega)⟩⟩
theorem PutShort_spec {F : Nat} (hF : 10 ≤ F) {x : Nat} (hx : x ≤ 72057594037927935) {H : SH} {K : ByteArray → Option EV → SH → Prop} (h : K (ofL (shortL x)) none H) : octet_PutShort.wp F (x : Int) H K :=
  ⟨fun c => absurd c (by omega), fun _ => ⟨fun c => absurd c (by omega), fun _ => short_spec hF (by omega) ⟨H, .refl H, h⟩⟩⟩

/-! ### Turn, Back -/
def turnZ (x : Int) : Int := if x < 0 then -2 * x - 1 else 2 * x
def backZ (x : Int) : Int := if x % 2 = 1 then -(x / 2) - 1 else x / 2
theorem Turn_bad {F : Nat} {x : Int} (hx : x < -36028797018963968 ∨ x ≥ 36028797018963968) {H : SH} {K : Int → SH → Prop} (h : K 0 H) : octet_Turn.wp F x H K :=
  ⟨fun _ => ⟨H, .refl H, h⟩, fun c => ⟨fun _ => ⟨H, .refl H, h⟩, fun c2 => absurd hx (by omega)⟩⟩
theorem Turn_spec {F : Nat} {x : Int} (h0 : -36028797018963968 ≤ x) (h1 : x < 36028797018963968) {H : SH} {K : Int → SH → Prop} (h : K (turnZ x) H) : octet_Turn.wp F x H K := by
  refine ⟨fun c => absurd c (by omega), fun _ => ⟨fun c => absurd c (by omega), fun _ => ⟨fun c => ⟨H, .refl H, ?_⟩, fun c => ⟨H, .refl H, ?_⟩⟩⟩⟩
  · rw [w64_id (x := -2 * x) (by omega), w64_id (by omega)]; simpa [turnZ, c] using h
  · rw [w64_id (by omega)]; simpa [turnZ, c] using h
theorem Back_spec {F : Nat} {x : Int} (h0 : 0 ≤ x) (h1 : x ≤ 9223372036854775807) {H : SH} {K : Int → SH → Prop} (h : K (backZ x) H) : octet_Back.wp F x H K := by
  have hd : x.tdiv 2 = x / 2 := Int.tdiv_eq_ediv_of_nonneg h0
  have hm : x.tmod 2 = x % 2 := Int.tmod_eq_emod_of_nonneg h0
  refine ⟨fun c => absurd c (by omega), fun _ => ⟨fun c => ⟨H, .refl H, ?_⟩, fun c => ⟨H, .refl H, ?_⟩⟩⟩
  · rw [hd, w64_id (x := x / 2) (by omega), w64_id (x := 0 - x / 2) (by omega), w64_id (by omega)]
    rw [hm] at c
    unfold backZ at h; rw [if_pos c] at h
    rw [show 0 - x / 2 - 1 = -(x / 2) - 1 by omega]; exact h
  · rw [hd, w64_id (by omega)]
    rw [hm] at c
    unfold backZ at h; rw [if_neg c] at h; exact h
theorem turnZ_range {x : Int} (h0 : -36028797018963968 ≤ x) (h1 : x < 36028797018963968) : 0 ≤ turnZ x ∧ turnZ x ≤ 72057594037927935 := by
  unfold turnZ; split <;> omega
theorem back_turn (x : Int) : backZ (turnZ x) = x := by
  unfold turnZ backZ; split <;> split <;> omega
theorem PutTurned_bad {F : Nat} {x : Int} (hx : x < -36028797018963968 ∨ x ≥ 36028797018963968) {H : SH} {K : ByteArray → Option EV → SH → Prop} (h : K ByteArray.empty (some (.no 2)) H) : octet_PutTurned.wp F x H K :=
  ⟨fun _ => ⟨H, .refl H, h⟩, fun c => ⟨fun _ => ⟨H, .refl H, h⟩, fun c2 => absurd hx (by omega)⟩⟩
theorem PutTurned_spec {F : Nat} (hF : 10 ≤ F) {x : Int} (h0 : -36028797018963968 ≤ x) (h1 : x < 36028797018963968) {H : SH} {K : ByteArray → Option EV → SH → Prop} (h : K (ofL (shortL (turnZ x).toNat)) none H) : octet_PutTurned.wp F x H K := by
  have hr := turnZ_range h0 h1
  refine ⟨fun c => absurd c (by omega), fun _ => ⟨fun c => absurd c (by omega), fun _ => Turn_spec h0 h1 ?_⟩⟩
  obtain ⟨n, hn⟩ := Int.eq_ofNat_of_zero_le hr.1
  rw [hn] at h hr ⊢
  exact short_spec hF (by omega) ⟨H, .refl H, h⟩

/-! ### Short -/
theorem drop_cons {l : List UInt8} {i : Nat} (h : i < l.length) : l.drop i = l[i] :: l.drop (i + 1) := List.drop_eq_getElem_cons h
theorem step7 {acc i : Nat} (hi : i ≤ 7) (ha : acc < 128 ^ i) (c : Nat) (hc : c < 128) : ibits .or .i64 (acc : Int) (ishl .i64 (w64 (c : Int)) (w64 (7 * (i : Int)))) = ((acc + c * 128 ^ i : Nat) : Int) := by
  have hp : (128 : Nat) ^ i = 2 ^ (7 * i) := by rw [Nat.pow_mul]
  have h7 : (2 : Nat) ^ (7 * i) ≤ 2 ^ 49 := Nat.pow_le_pow_right (by omega) (by omega)
  have hcm : c * 2 ^ (7 * i) ≤ 127 * 2 ^ (7 * i) := Nat.mul_le_mul_right _ (by omega)
  have h49 : (2 : Nat) ^ 49 = 562949953421312 := by decide
  rw [w64_id (x := (c : Int)) (by omega), w64_id (x := 7 * (i : Int)) (by omega), show (7 * (i : Int)) = ((7 * i : Nat) : Int) by omega, ishl_eq (by omega)]
  have e1 : ((c : Int) * 2 ^ (7 * i)) = ((c * 2 ^ (7 * i) : Nat) : Int) := by push_cast; rfl
  rw [e1, w64_id (by omega)]
  rw [hp] at ha ⊢
  rw [ibits_or (by omega) (by omega) (by omega) (by omega)]
  simp only [Int.toNat_natCast]
  rw [or_shift ha]
theorem and127u {c : UInt8} : ibits .and .u8 (c.toNat : Int) 127 = ((c.toNat % 128 : Nat) : Int) := by
  have := c.toNat_lt
  rw [ibits_and8 (by omega) (by omega) (by omega) (by omega)]; simp only [Int.toNat_natCast]; congr 1; exact and127 _
def RdK (K : Int → Int → Option EV → SH → Prop) (s : ByteArray) (p : Int) (H : SH) : Rd → Prop
  | .ok x n => K x (p + n) none H
  | .form => K 0 p (some (EV.mk p (some (.no 4)))) H
  | .cut => K 0 p (some (EV.mk s.size (some (.no 3)))) H
theorem Short_loop {F : Nat} {K : Int → Int → Option EV → SH → Prop} {s : ByteArray} (hs : s.size ≤ 4611686018427387904) {p : Nat} (hp : p ≤ s.size) (H : SH) : ∀ (m i acc : Nat) (k : Nat), 7 - i = m → i ≤ 7 → p + i ≤ s.size → acc < 128 ^ i → m + 1 < k →
    RdK K s p H (readL ((bs s).drop (p + i)) i acc) → octet_Short.l1 F K k s p acc ((s.size : Int) - p) i H := by
  intro m
  induction m with
  | zero =>
    intro i acc k hm hi hpi ha hk h
    obtain ⟨k, rfl⟩ : ∃ j, k = j + 1 := ⟨k - 1, by omega⟩
    obtain rfl : i = 7 := by omega
    refine ⟨fun c => ?_, fun c => ?_⟩
    · have hlt : p + 7 < (bs s).length := by rw [bs_len]; omega
      rw [drop_cons hlt] at h
      have hw : w64 ((p : Int) + ((7 : Nat) : Int)) = ((p + 7 : Nat) : Int) := by rw [w64_id (by omega)]; omega
      have hb : bt s ((p + 7 : Nat) : Int) = ((bs s)[p + 7].toNat : Int) := bt_eq hlt
      rw [hw, hb]
      have hu := (bs s)[p + 7].toNat_lt
      rw [bs_len] at hlt
      refine ⟨by omega, by omega, by rw [w64_id (by omega)]; omega, fun c1 => ⟨fun _ => fault_spec ⟨H, .refl H, ?_⟩, fun c2 => absurd rfl c2⟩, fun c1 => ⟨fun c2 => ⟨fun c3 => fault_spec ⟨H, .refl H, ?_⟩, fun c3 => absurd (by omega) c3⟩, fun c2 => ⟨H, .refl H, ?_⟩⟩⟩
      · rw [readL, if_pos (by omega), if_pos rfl] at h; exact h
      · rw [readL, if_neg (by omega), if_pos (by omega)] at h; exact h
      · rw [readL, if_neg (by omega), if_neg (by omega)] at h
        rw [and127u, step7 (by omega) ha _ (by omega), Nat.mod_eq_of_lt (by omega), w64_id (by omega)]
        have e : (((p + 7 : Nat) : Int) + 1) = (p : Int) + ((7 + 1 : Nat) : Int) := by omega
        rw [e]; exact h
    · have hlt : p + 7 = s.size := by omega
      refine fault_spec ⟨H, .refl H, ?_⟩
      rw [hlt, List.drop_eq_nil_of_le (by rw [bs_len]; omega), readL] at h
      exact h
  | succ m ih =>
    intro i acc k hm hi hpi ha hk h
    obtain ⟨k, rfl⟩ : ∃ j, k = j + 1 := ⟨k - 1, by omega⟩
    refine ⟨fun c => ?_, fun c => ?_⟩
    · have hlt : p + i < (bs s).length := by rw [bs_len]; omega
      rw [drop_cons hlt] at h
      have hw : w64 ((p : Int) + (i : Int)) = ((p + i : Nat) : Int) := by rw [w64_id (by omega)]; omega
      have hb : bt s ((p + i : Nat) : Int) = ((bs s)[p + i].toNat : Int) := bt_eq hlt
      rw [hw, hb]
      have hu := (bs s)[p + i].toNat_lt
      rw [bs_len] at hlt
      refine ⟨by omega, by omega, by rw [w64_id (by omega)]; omega, fun c1 => ⟨fun c2 => absurd c2 (by omega), fun c2 => ?_⟩, fun c1 => ⟨fun c2 => ⟨fun c3 => fault_spec ⟨H, .refl H, ?_⟩, fun c3 => ⟨H, .refl H, ?_⟩⟩, fun c2 => ⟨H, .refl H, ?_⟩⟩⟩
      · rw [readL, if_pos (by omega), if_neg (by omega)] at h
        rw [and127u, step7 (by omega) ha _ (by omega), w64_id (x := (i : Int) + 1) (by omega), show (i : Int) + 1 = ((i + 1 : Nat) : Int) by omega]
        refine ih (i + 1) _ k (by omega) (by omega) (by omega) ?_ (by omega) h
        have : (bs s)[p + i].toNat % 128 * 128 ^ i ≤ 127 * 128 ^ i := Nat.mul_le_mul_right _ (by omega)
        rw [Nat.pow_succ]; omega
      · rw [readL, if_neg (by omega), if_pos (by omega)] at h; exact h
      · rw [readL, if_neg (by omega), if_neg (by omega)] at h
        rw [and127u, step7 (by omega) ha _ (by omega), Nat.mod_eq_of_lt (by omega), w64_id (by omega)]
        have e : (((p + i : Nat) : Int) + 1) = (p : Int) + ((i + 1 : Nat) : Int) := by omega
        rw [e]; exact h
      · rw [readL, if_neg (by omega), if_neg (by omega)] at h
        rw [and127u, step7 (by omega) ha _ (by omega), Nat.mod_eq_of_lt (by omega), w64_id (by omega)]
        have e : (((p + i : Nat) : Int) + 1) = (p : Int) + ((i + 1 : Nat) : Int) := by omega
        rw [e]; exact h
    · have hlt : p + i = s.size := by omega
      refine fault_spec ⟨H, .refl H, ?_⟩
      rw [hlt, List.drop_eq_nil_of_le (by rw [bs_len]; omega), readL] at h
      exact h
theorem Short_bad {F : Nat} {s : ByteArray} {p : Int} (hp : p < 0 ∨ p > s.size) {H : SH} {K : Int → Int → Option EV → SH → Prop} (h : K 0 p (some (EV.mk p (some (.no 1)))) H) : octet_Short.wp F s p H K := by
  refine there_spec ?_
  rw [decide_eq_false (by omega)]
  exact ⟨fun c => by simp at c, fun _ => fault_spec ⟨H, .refl H, h⟩⟩
theorem Short_spec {F : Nat} (hF : 10 ≤ F) {s : ByteArray} (hs : s.size ≤ 4611686018427387904) {p : Nat} (hp : p ≤ s.size) {H : SH} {K : Int → Int → Option EV → SH → Prop} (h : RdK K s p H (readL ((bs s).drop p) 0 0)) : octet_Short.wp F s p H K := by
  refine there_spec ?_
  rw [decide_eq_true (by omega)]
  refine ⟨fun _ => ?_, fun c => absurd rfl c⟩
  rw [w64_id (by omega)]
  exact Short_loop hs hp H 7 0 0 F (by omega) (by omega) (by omega) (by simp) (by omega) h

/-! ### numbers and their bytes -/
theorem readL_shortL : ∀ (m x i acc : Nat) (rest : List UInt8), x < 128 ^ (m + 1) → i + m ≤ 7 → (x = 0 → i = 0) → readL (shortL x ++ rest) i acc = .ok (acc + x * 128 ^ i) (i + (shortL x).length) := by
  intro m
  induction m with
  | zero =>
    intro x i acc rest hx hi h0
    have hx' : x < 128 := by simpa using hx
    have hu : (UInt8.ofNat x).toNat = x := UInt8.toNat_ofNat_of_lt' (by show x < 256; omega)
    rw [shortL_one hx']
    simp only [List.cons_append, List.nil_append, readL, hu, List.length_cons, List.length_nil]
    rw [if_neg (by omega), if_neg (by omega)]
  | succ m ih =>
    intro x i acc rest hx hi h0
    by_cases hx' : x < 128
    · have hu : (UInt8.ofNat x).toNat = x := UInt8.toNat_ofNat_of_lt' (by show x < 256; omega)
      rw [shortL_one hx']
      simp only [List.cons_append, List.nil_append, readL, hu, List.length_cons, List.length_nil]
      rw [if_neg (by omega), if_neg (by omega)]
    · have hu : (UInt8.ofNat (x % 128 + 128)).toNat = x % 128 + 128 := UInt8.toNat_ofNat_of_lt' (by show _ < 256; omega)
      rw [shortL_more hx']
      simp only [List.cons_append, readL, hu, List.length_cons]
      rw [if_pos (by omega), if_neg (by omega), ih (x / 128) (i + 1) _ rest (by rw [Nat.pow_succ] at hx; omega) (by omega) (by omega)]
      have e1 : (x % 128 + 128) % 128 = x % 128 := by omega
      have e2 : acc + x % 128 * 128 ^ i + x / 128 * 128 ^ (i + 1) = acc + x * 128 ^ i := by
        rw [Nat.pow_succ, Nat.mul_comm (128 ^ i) 128, ← Nat.mul_assoc, Nat.add_assoc, ← Nat.add_mul]
        congr 2; omega
      rw [e1, e2]; congr 1; omega
theorem readL_short {x : Nat} (hx : x ≤ 72057594037927935) (rest : List UInt8) : readL (shortL x ++ rest) 0 0 = .ok x (shortL x).length := by
  rw [readL_shortL 7 x 0 0 rest (by have : (128 : Nat) ^ (7 + 1) = 72057594037927936 := by decide
                                    omega) (by omega) (by omega)]
  simp
/-- Bytes that are read are just those that are written. -/
theorem shortL_readL : ∀ (l : List UInt8) (i acc x n : Nat), readL l i acc = .ok x n → i ≤ 7 → ∃ y m, x = acc + y * 128 ^ i ∧ y < 128 ^ (8 - i) ∧ shortL y = l.take m ∧ n = i + m ∧ m ≤ l.length ∧ 0 < m ∧ (0 < i → 0 < y) := by
  intro l
  induction l with
  | nil => intro i acc x n h; simp [readL] at h
  | cons c l ih =>
    intro i acc x n h hi
    have hc := c.toNat_lt
    rw [readL] at h
    by_cases h1 : 128 ≤ c.toNat
    · rw [if_pos h1] at h
      by_cases h7 : i = 7
      · rw [if_pos h7] at h; cases h
      · rw [if_neg h7] at h
        obtain ⟨y, m, e1, e2, e3, e4, e5, e6, e7⟩ := ih _ _ _ _ h (by omega)
        have hy := e7 (by omega)
        refine ⟨c.toNat % 128 + y * 128, m + 1, ?_, ?_, ?_, by omega, by simp; omega, by omega, fun _ => by omega⟩
        · rw [e1, Nat.pow_succ, Nat.add_mul, Nat.mul_comm (128 ^ i) 128, Nat.mul_assoc]; omega
        · have : 8 - i = (8 - (i + 1)) + 1 := by omega
          rw [this, Nat.pow_succ]; omega
        · rw [shortL_more (by omega), show (c.toNat % 128 + y * 128) / 128 = y by omega, e3]
          simp only [List.take_succ_cons]
          congr 1
          rw [show (c.toNat % 128 + y * 128) % 128 + 128 = c.toNat by omega]
          exact UInt8.ofNat_toNat
    · rw [if_neg h1] at h
      by_cases h0 : c.toNat = 0 ∧ 0 < i
      · rw [if_pos h0] at h; cases h
      · rw [if_neg h0] at h
        injection h with e1 e2
        refine ⟨c.toNat, 1, e1.symm, ?_, ?_, by omega, by simp, by omega, by omega⟩
        · have : (128 : Nat) ^ 1 ≤ 128 ^ (8 - i) := Nat.pow_le_pow_right (by omega) (by omega)
          omega
        · rw [shortL_one (by omega)]; simp
theorem shortL_read {l : List UInt8} {x n : Nat} (h : readL l 0 0 = .ok x n) : x ≤ 72057594037927935 ∧ shortL x = l.take n ∧ n ≤ l.length ∧ 0 < n := by
  obtain ⟨y, m, e1, e2, e3, e4, e5, e6, _⟩ := shortL_readL l 0 0 x n h (by omega)
  have : (128 : Nat) ^ (8 - 0) = 72057594037927936 := by decide
  obtain rfl : x = y := by simpa using e1
  obtain rfl : n = m := by omega
  exact ⟨by omega, e3, e5, e6⟩

/-! ### Turned -/
def RdT (K : Int → Int → Option EV → SH → Prop) (s : ByteArray) (p : Int) (H : SH) : Rd → Prop
  | .ok x n => K (backZ x) (p + n) none H
  | .form => K 0 p (some (EV.mk p (some (.no 4)))) H
  | .cut => K 0 p (some (EV.mk s.size (some (.no 3)))) H
theorem Turned_bad {F : Nat} {s : ByteArray} {p : Int} (hp : p < 0 ∨ p > s.size) {H : SH} {K : Int → Int → Option EV → SH → Prop} (h : K 0 p (some (EV.mk p (some (.no 1)))) H) : octet_Turned.wp F s p H K :=
  Short_bad hp (o_some ⟨H, .refl H, h⟩)
theorem Turned_spec {F : Nat} (hF : 10 ≤ F) {s : ByteArray} (hs : s.size ≤ 4611686018427387904) {p : Nat} (hp : p ≤ s.size) {H : SH} {K : Int → Int → Option EV → SH → Prop} (h : RdT K s p H (readL ((bs s).drop p) 0 0)) : octet_Turned.wp F s p H K := by
  refine Short_spec hF hs hp ?_
  cases hr : readL ((bs s).drop p) 0 0 with
  | ok x n =>
    rw [hr] at h
    have hx := (shortL_read hr).1
    exact o_none (Back_spec (by omega) (by omega) ⟨H, .refl H, h⟩)
  | form => rw [hr] at h; exact (o_some ⟨H, .refl H, h⟩)
  | cut => rw [hr] at h; exact (o_some ⟨H, .refl H, h⟩)
end Go.Proofs.Ytpnbehgkbfhacaa.K
