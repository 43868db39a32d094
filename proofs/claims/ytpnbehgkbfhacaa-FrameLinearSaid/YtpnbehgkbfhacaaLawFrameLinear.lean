/- The law FrameLinear: the sum is linear, and of parts. -/
import Derived.Test.YtpnbehgkbfhacaaLawFrameRows
set_option linter.unusedVariables false
set_option linter.unusedSimpArgs false
namespace Go.Proofs.Ytpnbehgkbfhacaa.K
open Go

/-! ### the sum is linear -/
theorem xor4 {n : Nat} (a b c d : BitVec n) : (a ^^^ b) ^^^ (c ^^^ d) = (a ^^^ c) ^^^ (b ^^^ d) := by
  rw [BitVec.xor_assoc, BitVec.xor_assoc]; congr 1
  rw [← BitVec.xor_assoc, ← BitVec.xor_assoc, BitVec.xor_comm b c]
theorem bitB_eq (x : BitVec 32) : bitB x = (x >>> 1) ^^^ (if x.getLsbD 0 then polyB else 0#32) := by
  have h : (x &&& 1#32).toNat = x.toNat % 2 := by rw [BitVec.toNat_and]; exact Nat.and_one_is_mod _
  have h2 : x.getLsbD 0 = decide (x.toNat % 2 = 1) := by simp [BitVec.getLsbD, Nat.testBit_zero]
  unfold bitB
  rw [h, h2]
  by_cases hc : x.toNat % 2 = 1
  · simp [hc]
  · simp [hc]
theorem bitB_lin (x y : BitVec 32) : bitB x ^^^ bitB y = bitB (x ^^^ y) := by
  rw [bitB_eq, bitB_eq, bitB_eq, xor4, BitVec.ushiftRight_xor_distrib, BitVec.getLsbD_xor]
  congr 1
  cases x.getLsbD 0 <;> cases y.getLsbD 0 <;> simp
theorem bitsB_lin : ∀ (n : Nat) (x y : BitVec 32), bitsB n x ^^^ bitsB n y = bitsB n (x ^^^ y)
  | 0, _, _ => rfl
  | n + 1, x, y => by simp only [bitsB]; rw [bitsB_lin n, bitB_lin]
def byteB (c : UInt8) : BitVec 32 := BitVec.ofNat 32 c.toNat
theorem byteB_xor (c d : UInt8) : byteB (c ^^^ d) = byteB c ^^^ byteB d := by
  unfold byteB
  rw [UInt8.toNat_xor, BitVec.ofNat_xor]
theorem stepB_lin (x y : BitVec 32) (c d : UInt8) : stepB x c ^^^ stepB y d = bitsB 8 ((x ^^^ y) ^^^ byteB (c ^^^ d)) := by
  unfold stepB
  rw [bitsB_lin, xor4, byteB_xor]; rfl
theorem crcB_lin : ∀ (a b a' b' : List UInt8) (x y x' y' : BitVec 32), a.length = b.length → a.length = a'.length → a.length = b'.length → x ^^^ y = x' ^^^ y' →
    (∀ i (h1 : i < a.length) (h2 : i < b.length) (h3 : i < a'.length) (h4 : i < b'.length), a[i] ^^^ b[i] = a'[i] ^^^ b'[i]) → crcB x a ^^^ crcB y b = crcB x' a' ^^^ crcB y' b'
  | [], [], [], [], x, y, x', y', _, _, _, h, _ => h
  | c :: a, d :: b, c' :: a', d' :: b', x, y, x', y', h1, h2, h3, h, hb => by
    have h0 := hb 0 (by simp) (by simp) (by simp) (by simp)
    simp only [List.getElem_cons_zero] at h0
    show crcB (stepB x c) a ^^^ crcB (stepB y d) b = crcB (stepB x' c') a' ^^^ crcB (stepB y' d') b'
    refine crcB_lin a b a' b' _ _ _ _ (by simpa using h1) (by simpa using h2) (by simpa using h3) ?_ fun i g1 g2 g3 g4 => ?_
    · rw [stepB_lin, stepB_lin, h, h0]
    · have := hb (i + 1) (by simp; omega) (by simp; omega) (by simp; omega) (by simp; omega)
      simpa using this
  | [], _ :: _, _, _, _, _, _, _, h1, _, _, _, _ => by simp at h1
  | [], [], _ :: _, _, _, _, _, _, _, h2, _, _, _ => by simp at h2
  | [], [], [], _ :: _, _, _, _, _, _, _, h3, _, _ => by simp at h3
  | _ :: _, [], _, _, _, _, _, _, h1, _, _, _, _ => by simp at h1
  | _ :: _, _ :: _, [], _, _, _, _, _, _, h2, _, _, _ => by simp at h2
  | _ :: _, _ :: _, _ :: _, [], _, _, _, _, _, _, h3, _, _ => by simp at h3
theorem sumV_xor (a b : List UInt8) : ibits .xor .i64 (sumV a : Int) (sumV b : Int) = ((crcB 4294967295#32 a ^^^ crcB 4294967295#32 b).toNat : Int) := by
  have ha := sumV_lt a
  have hb := sumV_lt b
  rw [ibits_xor (by omega) (by omega) (by omega) (by omega)]
  simp only [Int.toNat_natCast]
  unfold sumV
  rw [← BitVec.toNat_xor, xor4, BitVec.xor_self]; simp
theorem xor8 (c d : UInt8) : ibits .xor .u8 (c.toNat : Int) (d.toNat : Int) = ((c ^^^ d).toNat : Int) := by
  have := c.toNat_lt; have := d.toNat_lt
  rw [ibits_xor8 (by omega) (by omega) (by omega) (by omega), UInt8.toNat_xor]; rfl

theorem xor3 (c d t : UInt8) : c ^^^ d = (c ^^^ t) ^^^ (d ^^^ t) := by
  rw [UInt8.xor_assoc, UInt8.xor_comm d t, ← UInt8.xor_assoc t, UInt8.xor_self, UInt8.zero_xor]
theorem getD_at {α : Type} {l : List α} {i : Nat} {d : α} (h : i < l.length) : l.getD i d = l[i] := by simp [List.getD, h]

/-! ### the law -/
def xorN (a t : List UInt8) (i : Nat) : List UInt8 := (List.zipWith (· ^^^ ·) (a.take i) (t.take i)) ++ a.drop i
def cellX (a t : List UInt8) (i j : Nat) : Value := .int .u8 ((if j < i then a.getD j 0 ^^^ t.getD j 0 else a.getD j 0).toNat : Int)
theorem cellX_step {a t : List UInt8} {n i : Nat} (hi : i < n) : wrl (cellsF n (cellX a t i)) (0 + (i : Int).toNat * 1) [.int .u8 ((a.getD i 0 ^^^ t.getD i 0).toNat : Int)] = cellsF n (cellX a t (i + 1)) := by
  rw [show 0 + (i : Int).toNat * 1 = i by omega, wrl_cellsF hi]
  refine cellsF_congr fun j hj => ?_
  unfold cellX
  by_cases h : j = i
  · subst h; rw [if_pos rfl, if_pos (by omega)]
  · rw [if_neg h]
    by_cases hlt : j < i
    · rw [if_pos hlt, if_pos (by omega)]
    · rw [if_neg hlt, if_neg (by omega)]
theorem FrameLinear_end {F : Nat} (hF : 3000 ≤ F) {x : Int} (h0 : 0 ≤ x) (h1 : x ≤ 65535) {s1 s2 s3 : ByteArray} {n : Nat} (hn : n ≤ 300) (hn1 : n ≤ s1.size) (hn2 : n ≤ s2.size) (hn3 : n ≤ s3.size) {b5 b21 b28 n22 n29 : Nat} {R1 : Int → Nat → Int → Sl → Sl → Int → Int → SH → Prop} {G : SH}
    (hb1 : G.has (b5, 0) (.string s1)) (hb2 : G.has (b5, 1) (.string s2)) (hr1 : G.row (some (b21, 0)) (cellsF n (cellX (bs s1) (bs s3) n))) (hr2 : G.row (some (b28, 0)) (cellsF n (cellX (bs s2) (bs s3) n))) :
    ladinglaw03_FrameLinear.r1 F (fun b _ => b = true) R1 x b5 n ⟨some (b21, 0), n, n22⟩ ⟨some (b28, 0), n, n29⟩ n n G := by
  have hl1 : ((bs s1).take n).length = n := by rw [List.length_take, bs_len]; omega
  have hl2 : ((bs s2).take n).length = n := by rw [List.length_take, bs_len]; omega
  let a' := (List.range n).map fun j => (bs s1).getD j 0 ^^^ (bs s3).getD j 0
  let b' := (List.range n).map fun j => (bs s2).getD j 0 ^^^ (bs s3).getD j 0
  have hla : a'.length = n := by simp [a']
  have hlb : b'.length = n := by simp [b']
  have hca : byteCells a' = cellsF n (cellX (bs s1) (bs s3) n) := byteCells_cellsF hla fun i hi => by
    rw [hla] at hi
    simp only [cellX, if_pos hi, a', List.getElem_map, List.getElem_range]
  have hcb : byteCells b' = cellsF n (cellX (bs s2) (bs s3) n) := byteCells_cellsF hlb fun i hi => by
    rw [hlb] at hi
    simp only [cellX, if_pos hi, b', List.getElem_map, List.getElem_range]
  have e1 : bs (s1.extract (0 : Int).toNat (n : Int).toNat) = (bs s1).take n := by rw [bs_extract]; simp
  have e2 : bs (s2.extract (0 : Int).toNat (n : Int).toNat) = (bs s2).take n := by rw [bs_extract]; simp
  have z1 : (s1.extract (0 : Int).toNat (n : Int).toNat).size = n := by rw [← bs_len, e1, hl1]
  have z2 : (s2.extract (0 : Int).toNat (n : Int).toNat).size = n := by rw [← bs_len, e2, hl2]
  refine br_f (by omega) ⟨s1, hb1, by omega, by omega, by omega, by rw [w64_id (by omega)]; omega, sumV ((bs s1).take n), ?_, s2, hb2, by omega, by omega, by omega, sumV ((bs s2).take n), ?_, a', hla.symm, by rw [hca]; exact hr1, sumV a', ?_, b', hlb.symm, by rw [hcb]; exact hr2, sumV b', ?_, ?_⟩
  · intro b hb; exact Sum_one (by omega) (by omega) (by omega) ⟨by rw [e1], .refl _⟩
  · intro b hb; exact Sum_one (by omega) (by omega) (by omega) ⟨by rw [e2], .refl _⟩
  · intro b hb
    have hz : (ofL a').size = n := by rw [ofL_size, hla]
    exact Sum_one (s := ofL a') (by omega) (by omega) (by omega) ⟨by rw [bs_ofL], .refl _⟩
  · intro b hb
    have hz : (ofL b').size = n := by rw [ofL_size, hlb]
    exact Sum_one (s := ofL b') (by omega) (by omega) (by omega) ⟨by rw [bs_ofL], .refl _⟩
  · rw [z1, w64_id (x := x) (by omega), w64_id (by omega)]
    have hmod : x.tmod ((n : Int) + 1) = x % ((n : Int) + 1) := Int.tmod_eq_emod_of_nonneg h0
    rw [hmod]
    have hk0 := Int.emod_nonneg x (show ((n : Int) + 1) ≠ 0 by omega)
    have hk1 := Int.emod_lt_of_pos x (show 0 < ((n : Int) + 1) by omega)
    obtain ⟨k, hk⟩ : ∃ k : Nat, x % ((n : Int) + 1) = k := ⟨(x % ((n : Int) + 1)).toNat, by omega⟩
    rw [hk] at hk0 hk1 ⊢
    have f1 : bs ((s1.extract (0 : Int).toNat (n : Int).toNat).extract (0 : Int).toNat (k : Int).toNat) = ((bs s1).take n).take k := by rw [bs_extract, e1]; simp
    have f2 : bs ((s1.extract (0 : Int).toNat (n : Int).toNat).extract (k : Int).toNat (n : Int).toNat) = ((bs s1).take n).drop k := by
      rw [bs_extract, e1]
      simp [List.take_take]
    have g1 : ((s1.extract (0 : Int).toNat (n : Int).toNat).extract (0 : Int).toNat (k : Int).toNat).size ≤ n := by rw [← bs_len, f1, List.length_take]; omega
    have g2 : ((s1.extract (0 : Int).toNat (n : Int).toNat).extract (k : Int).toNat (n : Int).toNat).size ≤ n := by rw [← bs_len, f2, List.length_drop]; omega
    refine br_t ?_ ⟨by omega, by omega, by omega, by omega, by omega, by omega, sumV ((bs s1).take n), ?_, sumV ((bs s1).take n), ?_, G, .refl G, by simp⟩
    · rw [sumV_xor, sumV_xor]
      congr 2
      refine crcB_lin _ _ _ _ _ _ _ _ (by omega) (by omega) (by omega) rfl fun i q1 q2 q3 q4 => ?_
      rw [hl1] at q1
      have w1 : (bs s1).getD i 0 = (bs s1)[i]'(by rw [bs_len]; omega) := by exact getD_at _
      have w2 : (bs s2).getD i 0 = (bs s2)[i]'(by rw [bs_len]; omega) := by exact getD_at _
      simp only [a', b', List.getElem_map, List.getElem_range, List.getElem_take, w1, w2]
      exact xor3 _ _ _
    · intro b hb
      refine Sum_spec (by omega) (ss := [_, ByteArray.empty, _]) rfl (row_upd rfl) ?_ (by simp; omega) (by simp) ⟨?_, .refl _⟩
      · intro s hs
        simp only [List.mem_cons, List.not_mem_nil, or_false] at hs
        rcases hs with rfl | rfl | rfl
        · omega
        · exact ⟨show 0 < F by omega, by decide⟩
        · omega
      · simp only [List.flatMap_cons, List.flatMap_nil, f1, f2, bs_empty, List.nil_append, List.append_nil, List.take_append_drop]
    · intro b hb; exact Sum_one (by omega) (by omega) (by omega) ⟨by rw [e1], .refl _⟩
theorem FrameLinear_wp {F : Nat} (hF : 3000 ≤ F) {x : Int} (h0 : 0 ≤ x) (h1 : x ≤ 65535) (s1 s2 s3 : ByteArray) (H : SH) : ladinglaw03_FrameLinear.wp F s1 s2 s3 x H (fun b _ => b = true) := by
  intro b5 hb5
  refine awake03_spec hF (br_t rfl ?_)
  have k0 : (H.upd b5 ⟨[.string s1, .string s2, .string s3], 30, false, 3⟩).has (b5, 0) (.string s1) := has_upd rfl
  have k1 : (H.upd b5 ⟨[.string s1, .string s2, .string s3], 30, false, 3⟩).has (b5, 1) (.string s2) := has_upd rfl
  have k2 : (H.upd b5 ⟨[.string s1, .string s2, .string s3], 30, false, 3⟩).has (b5, 2) (.string s3) := has_upd rfl
  refine ⟨s1, k0, s2, k1, s3, k2, s1, k0, ?_⟩
  obtain ⟨n, hn⟩ : ∃ n : Nat, imin (imin (imin (s1.size : Int) (s2.size : Int)) (s3.size : Int)) 300 = n := by
    refine ⟨(imin (imin (imin (s1.size : Int) (s2.size : Int)) (s3.size : Int)) 300).toNat, ?_⟩
    unfold imin; repeat' split
    all_goals omega
  have hmin : n ≤ 300 ∧ n ≤ s1.size ∧ n ≤ s2.size ∧ n ≤ s3.size := by
    unfold imin at hn; revert hn; repeat' split
    all_goals omega
  rw [hn]
  obtain ⟨m0, m1, m2, m3⟩ := hmin
  have z1 : (s1.extract (0 : Int).toNat (n : Int).toNat).size = n := by rw [← bs_len, bs_extract, List.length_drop, List.length_take, bs_len]; omega
  have z2 : (s2.extract (0 : Int).toNat (n : Int).toNat).size = n := by rw [← bs_len, bs_extract, List.length_drop, List.length_take, bs_len]; omega
  refine ⟨by omega, by omega, by omega, s2, k1, by omega, by omega, by omega, fun b21 n22 hb21 hc21 b28 n29 hb28 hc28 hne => ?_⟩
  rw [z1] at hc21 ⊢
  rw [z2] at hc28 ⊢
  have hne5 : b5 ≠ b21 := by rintro rfl; rw [SH.upd_same] at hb21; cases hb21
  have hne8 : b5 ≠ b28 := by rintro rfl; rw [SH.upd_same] at hb28; cases hb28
  have c1 : byteCells (s1.extract (0 : Int).toNat (n : Int).toNat).data.toList = cellsF n (cellX (bs s1) (bs s3) 0) := by
    have e1 : bs (s1.extract (0 : Int).toNat (n : Int).toNat) = (bs s1).take n := by rw [bs_extract]; simp
    show byteCells (bs _) = _
    rw [e1]
    refine byteCells_cellsF (by rw [List.length_take, bs_len]; omega) fun i hi => ?_
    have : i < (bs s1).length := by rw [List.length_take] at hi; omega
    simp only [cellX, List.getElem_take]
    rw [if_neg (by omega), getD_at this]
  have c2 : byteCells (s2.extract (0 : Int).toNat (n : Int).toNat).data.toList = cellsF n (cellX (bs s2) (bs s3) 0) := by
    have e1 : bs (s2.extract (0 : Int).toNat (n : Int).toNat) = (bs s2).take n := by rw [bs_extract]; simp
    show byteCells (bs _) = _
    rw [e1]
    refine byteCells_cellsF (by rw [List.length_take, bs_len]; omega) fun i hi => ?_
    have : i < (bs s2).length := by rw [List.length_take] at hi; omega
    simp only [cellX, List.getElem_take]
    rw [if_neg (by omega), getD_at this]
  rw [c1, c2]
  generalize hG : (H.upd b5 ⟨[.string s1, .string s2, .string s3], 30, false, 3⟩) = G at *
  have key : ∀ (m i k : Nat), n - i = m → i ≤ n → m < k → ladinglaw03_FrameLinear.l1 F (fun b _ => b = true) k x b5 n ⟨some (b21, 0), n, n22⟩ ⟨some (b28, 0), n, n29⟩ n i
      ((G.upd b21 ⟨cellsF n (cellX (bs s1) (bs s3) i), 5, false, n22⟩).upd b28 ⟨cellsF n (cellX (bs s2) (bs s3) i), 5, false, n29⟩) := by
    intro m
    induction m with
    | zero =>
      intro i k hm hi hk
      obtain ⟨k, rfl⟩ : ∃ j, k = j + 1 := ⟨k - 1, by omega⟩
      obtain rfl : i = n := by omega
      exact FrameLinear_end hF h0 h1 m0 m1 m2 m3 (has_upd_ne hne8 (has_upd_ne hne5 k0)) (has_upd_ne hne8 (has_upd_ne hne5 k1)) (row_upd_ne (Ne.symm hne) (row_upd rfl)) (row_upd rfl)
    | succ m ih =>
      intro i k hm hi hk
      obtain ⟨k, rfl⟩ : ∃ j, k = j + 1 := ⟨k - 1, by omega⟩
      have hi' : i < n := by omega
      have g1 : (cellsF n (cellX (bs s1) (bs s3) i))[0 + (i : Int).toNat * 1]? = some (.int .u8 (((bs s1).getD i 0).toNat : Int)) := by
        rw [show 0 + (i : Int).toNat * 1 = i by omega, cellsF_get hi']; simp [cellX]
      have g2 : (cellsF n (cellX (bs s2) (bs s3) i))[0 + (i : Int).toNat * 1]? = some (.int .u8 (((bs s2).getD i 0).toNat : Int)) := by
        rw [show 0 + (i : Int).toNat * 1 = i by omega, cellsF_get hi']; simp [cellX]
      have hb3 : bt s3 (i : Int) = (((bs s3).getD i 0).toNat : Int) := by
        have : i < (bs s3).length := by rw [bs_len]; omega
        rw [bt_eq this, getD_at this]
      refine br_t (by omega) ⟨(b21, 0), rfl, by omega, by show (i : Int) < (n : Int); omega, _, has_upd_ne (Ne.symm hne) (has_upd g1), s3, has_upd_ne hne8 (has_upd_ne hne5 k2), by omega, by omega, (b21, 0), rfl, by omega, by show (i : Int) < (n : Int); omega,
        wrs_upd_ne (Ne.symm hne) (wrs_upd rfl (by simp only [cellsF_len]; omega)), ?_⟩
      rw [hb3, xor8, setl_upd_ne (Ne.symm hne), setl_upd]
      simp only [cellX_step hi']
      refine ⟨(b28, 0), rfl, by omega, by show (i : Int) < (n : Int); omega, _, has_upd g2, s3, has_upd_ne hne8 (has_upd_ne hne5 k2), by omega, by omega, (b28, 0), rfl, by omega, by show (i : Int) < (n : Int); omega, wrs_upd rfl (by simp only [cellsF_len]; omega), ?_⟩
      rw [hb3, xor8, setl_upd]
      simp only [cellX_step hi']
      rw [w64_id (by omega), show (i : Int) + 1 = ((i + 1 : Nat) : Int) by omega]
      exact ih (i + 1) k (by omega) (by omega) (by omega)
  exact key n 0 F (by omega) (by omega) (by omega)
end Go.Proofs.Ytpnbehgkbfhacaa.K
