/- The document's own functions: ReadShort of layer 1, and layer 6 (gap). -/
import Derived.Test.YtpnbehgkbfhacaaDoorSpecRef
import Derived.Test.YtpnbehgkbfhacaaDoorSpecGap2
set_option linter.unusedVariables false
set_option linter.unusedSimpArgs false
namespace Go.Proofs.YtpnbehgkbfhacaaDoor.K
open Go

/-! ### ReadShort -/
def scanL : List UInt8 → Nat → Nat
  | _, 0 => 0
  | [], _ => 0
  | c :: l, k + 1 => if 128 ≤ c.toNat then scanL l k + 1 else 0
theorem scanL_cons (c : UInt8) (l : List UInt8) (k : Nat) : scanL (c :: l) (k + 1) = if 128 ≤ c.toNat then scanL l k + 1 else 0 := rfl
def valL : List UInt8 → Nat
  | [] => 0
  | c :: l => c.toNat % 128 + 128 * valL l
theorem scanL_le : ∀ (l : List UInt8) (k : Nat), scanL l k ≤ k ∧ scanL l k ≤ l.length
  | [], 0 => by simp [scanL]
  | _ :: _, 0 => by simp [scanL]
  | [], k + 1 => by simp [scanL]
  | c :: l, k + 1 => by
    have := scanL_le l k
    unfold scanL; split <;> simp <;> omega
theorem scanL_more : ∀ (l : List UInt8) (k i : Nat) (h : i < scanL l k) (hi : i < l.length), 128 ≤ (l[i]).toNat
  | [], _, i, _, hi => by simp at hi
  | c :: l, 0, i, h, _ => by simp [scanL] at h
  | c :: l, k + 1, i, h, hi => by
    unfold scanL at h
    by_cases hc : 128 ≤ c.toNat
    · rw [if_pos hc] at h
      cases i with
      | zero => exact hc
      | succ i => exact scanL_more l k i (by omega) (by simpa using hi)
    · rw [if_neg hc] at h; omega
theorem scanL_end : ∀ (l : List UInt8) (k : Nat) (h1 : scanL l k < k) (h2 : scanL l k < l.length), (l[scanL l k]).toNat < 128
  | [], _, _, h2 => by simp at h2
  | c :: l, 0, h1, _ => by omega
  | c :: l, k + 1, h1, h2 => by
    by_cases hc : 128 ≤ c.toNat
    · have e : scanL (c :: l) (k + 1) = scanL l k + 1 := by rw [scanL_cons, if_pos hc]
      have := scanL_end l k (by omega) (by rw [e] at h2; simpa using h2)
      simp only [e, List.getElem_cons_succ]; exact this
    · have e : scanL (c :: l) (k + 1) = 0 := by rw [scanL_cons, if_neg hc]
      simp only [e, List.getElem_cons_zero]; omega
theorem readL_scan : ∀ (l : List UInt8) (i acc : Nat), i ≤ 7 → readL l i acc =
    if scanL l (8 - i) = 8 - i then .form else if h : scanL l (8 - i) < l.length then (if (l[scanL l (8 - i)]).toNat = 0 ∧ 0 < i + scanL l (8 - i) then .form else .ok (acc + valL (l.take (scanL l (8 - i) + 1)) * 128 ^ i) (i + scanL l (8 - i) + 1)) else .cut
  | [], i, acc, hi => by
    have e : scanL [] (8 - i) = 0 := by cases h : 8 - i <;> rfl
    simp only [readL, e]
    rw [if_neg (by omega)]; simp
  | c :: l, i, acc, hi => by
    have hk : 8 - i = (7 - i) + 1 := by omega
    by_cases hc : 128 ≤ c.toNat
    · have e : scanL (c :: l) (8 - i) = scanL l (7 - i) + 1 := by rw [hk, scanL_cons, if_pos hc]
      simp only [readL, if_pos hc]
      by_cases h7 : i = 7
      · subst h7
        rw [if_pos rfl, if_pos]
        rw [e]; simp [scanL]
      · rw [if_neg h7, readL_scan l (i + 1) _ (by omega)]
        have hk2 : 8 - (i + 1) = 7 - i := by omega
        simp only [hk2, e]
        by_cases h1 : scanL l (7 - i) = 7 - i
        · rw [if_pos h1, if_pos (by omega)]
        · rw [if_neg h1, if_neg (by omega)]
          by_cases h2 : scanL l (7 - i) < l.length
          · rw [dif_pos h2, dif_pos (by simpa using h2)]
            simp only [List.getElem_cons_succ, List.take_succ_cons, valL]
            have e1 : i + 1 + scanL l (7 - i) = i + (scanL l (7 - i) + 1) := by omega
            simp only [e1]
            split
            · rfl
            · congr 1
              rw [Nat.pow_succ, Nat.add_mul, Nat.mul_assoc 128, Nat.mul_left_comm 128, Nat.add_assoc]
              congr 2
              rw [Nat.mul_comm (128 ^ i) 128, Nat.mul_left_comm]
          · rw [dif_neg h2, dif_neg (by simpa using h2)]
    · have e : scanL (c :: l) (8 - i) = 0 := by rw [hk, scanL_cons, if_neg hc]
      simp only [readL, if_neg hc, e]
      have h0 : ¬ (0 = 8 - i) := by omega
      have h1 : 0 < (c :: l).length := by simp
      simp only [h0, if_false, h1, dite_true]
      simp only [List.getElem_cons_zero, Nat.add_zero, Nat.zero_add, List.take_succ_cons, List.take_zero, valL, Nat.mul_zero]
      rw [Nat.mod_eq_of_lt (by omega)]
theorem readL_scan0 (l : List UInt8) : readL l 0 0 =
    if scanL l 8 = 8 then .form else if h : scanL l 8 < l.length then (if (l[scanL l 8]).toNat = 0 ∧ 0 < scanL l 8 then .form else .ok (valL (l.take (scanL l 8 + 1))) (scanL l 8 + 1)) else .cut := by
  rw [readL_scan l 0 0 (by omega)]; simp
theorem valL_lt : ∀ (l : List UInt8), valL l < 128 ^ l.length
  | [] => by simp [valL]
  | c :: l => by
    have := valL_lt l
    simp only [valL, List.length_cons, Nat.pow_succ]; omega
def RsK (K : Int → Int → Int → Int → SH → Prop) (s : ByteArray) (p : Nat) (H : SH) : Rd → Prop
  | .ok x n => K x ((p + n : Nat) : Int) 0 0 H
  | .form => K 0 p 4 p H
  | .cut => K 0 p 3 s.size H
def go4 (a b c d : Int) : List Value := [.int .i64 a, .int .i64 b, .int .i64 c, .int .i64 d]
abbrev gotT : TypeId := 62
theorem row_own {H : SH} {b : Nat} {o : AO} {vs : List Value} (h : vs.length = o.cells.length) : SH.row (SH.setl (H.upd b o) (b, 0) vs) (some (b, 0)) vs := by
  rw [setl_upd]
  refine row_upd ?_
  simp [wrl, h]
theorem own_le {H : SH} {b : Nat} {o : AO} {k : Nat} {vs : List Value} (h : H b = none) : SH.le H (SH.setl (H.upd b o) (b, k) vs) := by rw [setl_upd]; exact le_upd h
theorem ReadShort_ret {K : Int → Int → Int → Int → SH → Prop} {b3 : Nat} {H : SH} (hb : H b3 = none) {a b c d : Int} (h : K a b c d H) :
    SH.wrs (SH.upd H b3 ⟨[.int .i64 0, .int .i64 0, .int .i64 0, .int .i64 0], gotT, false, 4⟩) (b3, 0) 4 ∧ ∃ (x7 : Int) (x8 : Int) (x9 : Int) (x10 : Int),
    SH.row (SH.setl (SH.upd H b3 ⟨[.int .i64 0, .int .i64 0, .int .i64 0, .int .i64 0], gotT, false, 4⟩) (b3, 0) [.int .i64 a, .int .i64 b, .int .i64 c, .int .i64 d]) (some (b3, 0)) [.int .i64 x7, .int .i64 x8, .int .i64 x9, .int .i64 x10] ∧
    ∃ Hr, SH.le Hr (SH.setl (SH.upd H b3 ⟨[.int .i64 0, .int .i64 0, .int .i64 0, .int .i64 0], gotT, false, 4⟩) (b3, 0) [.int .i64 a, .int .i64 b, .int .i64 c, .int .i64 d]) ∧ K x7 x8 x9 x10 Hr :=
  ⟨wrs_upd rfl (by simp), a, b, c, d, row_own rfl, H, own_le hb, h⟩
theorem ReadShort_val {F : Nat} {K : Int → Int → Int → Int → SH → Prop} {s : ByteArray} (hs : s.size ≤ 4611686018427387904) {b3 p e : Nat} (hpe : p + e < s.size) (he : e ≤ 7) {H : SH} (hb : H b3 = none)
    (h : K (valL (((bs s).drop p).take (e + 1)) : Nat) ((p + e : Nat) + 1 : Int) 0 0 H) : ∀ (m k : Nat), m ≤ e + 1 → m < k →
      ladingref01_ReadShort.l2 F K k s p b3 ((p + e : Nat) : Int) (valL ((((bs s).drop p).take (e + 1)).drop m) : Nat) ((p : Int) + m - 1) (SH.upd H b3 ⟨[.int .i64 0, .int .i64 0, .int .i64 0, .int .i64 0], gotT, false, 4⟩) := by
  have hl : ((bs s).drop p).length = s.size - p := by rw [List.length_drop, bs_len]
  have htl : (((bs s).drop p).take (e + 1)).length = e + 1 := by rw [List.length_take]; omega
  intro m
  induction m with
  | zero =>
    intro k hm hk
    obtain ⟨k, rfl⟩ : ∃ j, k = j + 1 := ⟨k - 1, by omega⟩
    refine br_f (by omega) ?_
    rw [w64_id (by omega)]
    exact ReadShort_ret hb h
  | succ m ih =>
    intro k hm hk
    obtain ⟨k, rfl⟩ : ∃ j, k = j + 1 := ⟨k - 1, by omega⟩
    have hlt : p + m < (bs s).length := by rw [bs_len]; omega
    have e1 : (p : Int) + ((m + 1 : Nat) : Int) - 1 = ((p + m : Nat) : Int) := by omega
    rw [e1]
    refine br_t (by omega) ⟨by omega, by omega, ?_⟩
    rw [bt_eq hlt]
    have hc := ((bs s)[p + m]).toNat_lt
    have hd : (((bs s).drop p).take (e + 1)).drop m = (bs s)[p + m] :: (((bs s).drop p).take (e + 1)).drop (m + 1) := by
      rw [List.drop_eq_getElem_cons (by omega)]
      congr 1
      rw [List.getElem_take, List.getElem_drop]
    have hv := valL_lt ((((bs s).drop p).take (e + 1)).drop (m + 1))
    have hp : 128 ^ ((((bs s).drop p).take (e + 1)).drop (m + 1)).length ≤ 128 ^ 7 := Nat.pow_le_pow_right (by omega) (by rw [List.length_drop]; omega)
    have h7 : (128 : Nat) ^ 7 = 562949953421312 := by decide
    have hmod : (w64 (((bs s)[p + m]).toNat : Int)).tmod 128 = ((((bs s)[p + m]).toNat % 128 : Nat) : Int) := by
      rw [w64_id (by omega), Int.tmod_eq_emod_of_nonneg (by omega)]; omega
    have ih' := ih k (by omega) (by omega)
    rw [hd] at ih'
    simp only [valL] at ih'
    rw [hmod]
    generalize valL ((((bs s).drop p).take (e + 1)).drop (m + 1)) = v at hv ih' ⊢
    rw [w64_id (x := 128 * (v : Int)) (by omega), w64_id (by omega), w64_id (by omega)]
    have e2 : 128 * (v : Int) + ((((bs s)[p + m]).toNat % 128 : Nat) : Int) = ((((bs s)[p + m]).toNat % 128 + 128 * v : Nat) : Int) := by omega
    have e3 : ((p + m : Nat) : Int) - 1 = (p : Int) + (m : Int) - 1 := by omega
    rw [e2, e3]
    exact ih'
theorem ReadShort_bad {F : Nat} {s : ByteArray} {p : Int} (hp : p < 0 ∨ p > s.size) {H : SH} {K : Int → Int → Int → Int → SH → Prop} (h : K 0 p 1 p H) : ladingref01_ReadShort.wp F s p H K := by
  intro b3 hb
  exact ⟨fun _ => ReadShort_ret hb h, fun c => ⟨fun _ => ReadShort_ret hb h, fun c2 => absurd hp (by omega)⟩⟩
theorem ReadShort_spec {F : Nat} (hF : 20 ≤ F) {s : ByteArray} (hs : s.size ≤ 4611686018427387904) {p : Nat} (hp : p ≤ s.size) {H : SH} {K : Int → Int → Int → Int → SH → Prop} (h : RsK K s p H (readL ((bs s).drop p) 0 0)) : ladingref01_ReadShort.wp F s p H K := by
  intro b3 hb
  refine br_f (by omega) (br_f (by omega) ?_)
  have hl : ((bs s).drop p).length = s.size - p := by rw [List.length_drop, bs_len]
  have hsc := scanL_le ((bs s).drop p) 8
  have hget : ∀ i (hi : i < ((bs s).drop p).length), bt s ((p + i : Nat) : Int) = ((((bs s).drop p)[i]).toNat : Int) := fun i hi => by
    rw [bt_eq (by rw [bs_len]; omega), List.getElem_drop]
  have fin : ∀ e, e = scanL ((bs s).drop p) 8 → ladingref01_ReadShort.j2 F K s p b3 ((p + e : Nat) : Int) (SH.upd H b3 ⟨[.int .i64 0, .int .i64 0, .int .i64 0, .int .i64 0], gotT, false, 4⟩) := by
    intro e he
    rw [readL_scan0] at h
    simp only [← he] at h hsc
    refine ⟨fun c => ?_, fun c => ⟨fun c2 => ?_, fun c2 => ?_⟩⟩
    · rw [w64_id (by omega)] at c
      rw [if_pos (by omega)] at h
      exact ReadShort_ret hb h
    · rw [w64_id (by omega)] at c
      rw [if_neg (by omega), dif_neg (by omega)] at h
      exact ReadShort_ret hb h
    · rw [w64_id (by omega)] at c
      have hlt : e < ((bs s).drop p).length := by omega
      rw [if_neg (by omega), dif_pos hlt] at h
      have val : ¬ ((((bs s).drop p)[e]).toNat = 0 ∧ 0 < e) → ladingref01_ReadShort.j3 F K s p b3 ((p + e : Nat) : Int) (SH.upd H b3 ⟨[.int .i64 0, .int .i64 0, .int .i64 0, .int .i64 0], gotT, false, 4⟩) := by
        intro hz
        rw [if_neg hz] at h
        have hK : K (valL (((bs s).drop p).take (e + 1)) : Nat) ((p + e : Nat) + 1 : Int) 0 0 H := by
          have e1 : ((p + e : Nat) : Int) + 1 = ((p + (e + 1) : Nat) : Int) := by omega
          rw [e1]; exact h
        have := ReadShort_val (F := F) hs (by omega) (by omega) hb hK (e + 1) F (by omega) (by omega)
        have htl : (((bs s).drop p).take (e + 1)).length = e + 1 := by rw [List.length_take]; omega
        rw [List.drop_eq_nil_of_le (by omega)] at this
        have e2 : (p : Int) + ((e + 1 : Nat) : Int) - 1 = ((p + e : Nat) : Int) := by omega
        rw [e2] at this
        exact this
      rw [hget e hlt]
      refine ⟨by omega, by omega, fun c3 => ⟨fun c4 => ?_, fun c4 => val fun hz => ?_⟩, fun c3 => val fun hz => ?_⟩
      · rw [if_pos ⟨by omega, by omega⟩] at h
        exact ReadShort_ret hb h
      · omega
      · omega
  have key : ∀ (m i k : Nat), scanL ((bs s).drop p) 8 - i = m → i ≤ scanL ((bs s).drop p) 8 → m < k → ladingref01_ReadShort.l1 F K k s p b3 ((p + i : Nat) : Int) (SH.upd H b3 ⟨[.int .i64 0, .int .i64 0, .int .i64 0, .int .i64 0], gotT, false, 4⟩) := by
    intro m
    induction m with
    | zero =>
      intro i k hm hi hk
      obtain ⟨k, rfl⟩ : ∃ j, k = j + 1 := ⟨k - 1, by omega⟩
      have hie : i = scanL ((bs s).drop p) 8 := by omega
      refine ⟨fun c => ⟨by omega, by omega, fun c2 => ⟨fun c3 => ?_, fun c3 => fin i hie⟩, fun c2 => fin i hie⟩, fun c => fin i hie⟩
      exfalso
      rw [w64_id (by omega)] at c3
      have hlt : i < ((bs s).drop p).length := by omega
      rw [hget i hlt] at c2
      have := scanL_end ((bs s).drop p) 8 (by omega) (by omega)
      simp only [← hie] at this
      omega
    | succ m ih =>
      intro i k hm hi hk
      obtain ⟨k, rfl⟩ : ∃ j, k = j + 1 := ⟨k - 1, by omega⟩
      have hlt : i < ((bs s).drop p).length := by omega
      have hmore := scanL_more ((bs s).drop p) 8 i (by omega) hlt
      refine br_t (by omega) ⟨by omega, by omega, br_t (by rw [hget i hlt]; omega) (br_t (by rw [w64_id (by omega)]; omega) ?_)⟩
      rw [w64_id (by omega), show ((p + i : Nat) : Int) + 1 = ((p + (i + 1) : Nat) : Int) by omega]
      exact ih (i + 1) k (by omega) (by omega) (by omega)
  have := key (scanL ((bs s).drop p) 8) 0 F (by omega) (by omega) (by omega)
  exact this
end Go.Proofs.YtpnbehgkbfhacaaDoor.K
