/- The sum is linear, and tells a byte that was turned. -/
import Derived.Test.YtknhlipealekoaaDoorSpecFrame
set_option linter.unusedVariables false
set_option linter.unusedSimpArgs false
namespace Go.Proofs.YtknhlipealekoaaDoor.K
open Go

/-! ### the sum is linear -/
theorem xor4 {n : Nat} (a b c d : BitVec n) : (a ^^^ b) ^^^ (c ^^^ d) = (a ^^^ c) ^^^ (b ^^^ d) := by
  rw [BitVec.xor_assoc, BitVec.xor_assoc]; congr 1
  rw [← BitVec.xor_assoc, ← BitVec.xor_assoc, BitVec.xor_comm b c]
theorem bitB_eq (x : BitVec 32) : bitB x = (x >>> 1) ^^^ (if x.getLsbD 0 then polyB else 0#32) := by
  have h : (x &&& 1#32).toNat = x.toNat % 2 := by rw [BitVec.toNat_and]; exact Nat.and_one_is_mod _
  have h2 : x.getLsbD 0 = decide (x.toNat % 2 = 1) := by simp [BitVec.getLsbD, Nat.testBit_zero]
  unfold bitB
  rw [h, h2]
  by_cases hc : x.toNat % 2 = 1
  · simp [hc]
  · simp [hc]
theorem bitB_lin (x y : BitVec 32) : bitB x ^^^ bitB y = bitB (x ^^^ y) := by
  rw [bitB_eq, bitB_eq, bitB_eq, xor4, BitVec.ushiftRight_xor_distrib, BitVec.getLsbD_xor]
  congr 1
  cases x.getLsbD 0 <;> cases y.getLsbD 0 <;> simp
theorem bitsB_lin : ∀ (n : Nat) (x y : BitVec 32), bitsB n x ^^^ bitsB n y = bitsB n (x ^^^ y)
  | 0, _, _ => rfl
  | n + 1, x, y => by simp only [bitsB]; rw [bitsB_lin n, bitB_lin]
def byteB (c : UInt8) : BitVec 32 := BitVec.ofNat 32 c.toNat
theorem byteB_xor (c d : UInt8) : byteB (c ^^^ d) = byteB c ^^^ byteB d := by
  unfold byteB
  rw [UInt8.toNat_xor, BitVec.ofNat_xor]
theorem stepB_lin (x y : BitVec 32) (c d : UInt8) : stepB x c ^^^ stepB y d = bitsB 8 ((x ^^^ y) ^^^ byteB (c ^^^ d)) := by
  unfold stepB
  rw [bitsB_lin, xor4, byteB_xor]; rfl

theorem bitB_zero {x : BitVec 32} (h : bitB x = 0#32) : x = 0#32 := by
  rw [bitB_eq] at h
  cases hb : x.getLsbD 0 with
  | true =>
    rw [hb] at h
    simp only [if_true] at h
    have h31 := congrArg (fun y : BitVec 32 => y.getLsbD 31) h
    simp only [BitVec.getLsbD_xor, BitVec.getLsbD_ushiftRight] at h31
    have hp : polyB.getLsbD 31 = true := by decide
    have hx : x.getLsbD (1 + 31) = false := BitVec.getLsbD_of_ge x 32 (by omega)
    rw [hp, hx] at h31
    simp at h31
  | false =>
    rw [hb] at h
    simp only [Bool.false_eq_true, if_false, BitVec.xor_zero] at h
    apply BitVec.eq_of_getLsbD_eq
    intro i hi
    rw [BitVec.getLsbD_zero]
    cases i with
    | zero => exact hb
    | succ i =>
      have := congrArg (fun y : BitVec 32 => y.getLsbD i) h
      simp only [BitVec.getLsbD_ushiftRight, BitVec.getLsbD_zero] at this
      rw [Nat.add_comm] at this; exact this
theorem bitsB_zero : ∀ (n : Nat) {x : BitVec 32}, bitsB n x = 0#32 → x = 0#32
  | 0, _, h => h
  | n + 1, _, h => bitB_zero (bitsB_zero n h)
theorem xor_zero_iff {n : Nat} {x y : BitVec n} : x ^^^ y = 0#n ↔ x = y := by
  constructor
  · intro h
    have : x ^^^ y ^^^ y = 0#n ^^^ y := by rw [h]
    rwa [BitVec.xor_assoc, BitVec.xor_self, BitVec.xor_zero, BitVec.zero_xor] at this
  · rintro rfl; exact BitVec.xor_self
theorem byteB_zero {c : UInt8} (h : byteB c = 0#32) : c = 0 := by
  have h1 := congrArg BitVec.toNat h
  have hc := c.toNat_lt
  simp only [byteB, BitVec.toNat_ofNat, Nat.zero_mod] at h1
  rw [Nat.mod_eq_of_lt (by omega)] at h1
  exact UInt8.toNat_inj.1 h1
theorem byte_xor_zero {c d : UInt8} (h : c ^^^ d = 0) : c = d := by
  have : c ^^^ d ^^^ d = 0 ^^^ d := by rw [h]
  rwa [UInt8.xor_assoc, UInt8.xor_self, UInt8.xor_zero, UInt8.zero_xor] at this
theorem crcB_ne : ∀ (q : List UInt8) {u v : BitVec 32}, u ≠ v → crcB u q ≠ crcB v q
  | [], _, _, h => h
  | e :: q, u, v, h => by
    refine crcB_ne q (u := stepB u e) (v := stepB v e) fun he => h ?_
    have h1 := xor_zero_iff.2 he
    rw [stepB_lin, UInt8.xor_self] at h1
    have h2 := bitsB_zero 8 h1
    have h0 : byteB 0 = 0#32 := rfl
    rw [h0, BitVec.xor_zero] at h2
    exact xor_zero_iff.1 h2
theorem crcB_turned (p q : List UInt8) {c d : UInt8} (h : c ≠ d) (x : BitVec 32) : crcB x (p ++ c :: q) ≠ crcB x (p ++ d :: q) := by
  rw [crcB_append, crcB_append]
  refine crcB_ne q (u := stepB (crcB x p) c) (v := stepB (crcB x p) d) fun he => h ?_
  have h1 := xor_zero_iff.2 he
  rw [stepB_lin, BitVec.xor_self, BitVec.zero_xor] at h1
  exact byte_xor_zero (byteB_zero (bitsB_zero 8 h1))
theorem sumV_turned (p q : List UInt8) {c d : UInt8} (h : c ≠ d) : sumV (p ++ c :: q) ≠ sumV (p ++ d :: q) := by
  intro he
  unfold sumV at he
  have h1 := BitVec.eq_of_toNat_eq he
  refine crcB_turned p q h 4294967295#32 ?_
  have : 4294967295#32 ^^^ (4294967295#32 ^^^ crcB 4294967295#32 (p ++ c :: q)) = 4294967295#32 ^^^ (4294967295#32 ^^^ crcB 4294967295#32 (p ++ d :: q)) := by rw [h1]
  rwa [← BitVec.xor_assoc, ← BitVec.xor_assoc, BitVec.xor_self, BitVec.zero_xor, BitVec.zero_xor] at this
/-- Turned in one byte, a frame is none's (of the same length). -/
theorem seal_turned {t : List UInt8} (ht : t.length ≤ 60000) {i : Nat} {d : UInt8} (hi : i < (sealL t).length) (hd : d ≠ (sealL t)[i]) {n : Nat} (hn : nextL ((sealL t).set i d) = .ok n) : n + 6 ≠ (sealL t).length := by
  intro hlen
  obtain ⟨h1, h2, h3⟩ := nextL_ok hn
  have hl := sealL_len t
  have hnt : n = t.length := by omega
  subst hnt
  have hyl : ((sealL t).set i d).length = t.length + 6 := by rw [List.length_set, hl]
  rw [List.take_of_length_le (l := (sealL t).set i d) (i := t.length + 6) (by omega)] at h3
  generalize hy : (sealL t).set i d = y at h3 hyl
  have ht' : ((y.drop 6).take t.length).length = t.length := by rw [List.length_take, List.length_drop]; omega
  -- the parts of a sealed text
  have part : ∀ u : List UInt8, (sealL u).take 4 = fixL 4 (sumV ((sealL u).drop 4)) := by
    intro u
    unfold sealL
    rw [List.append_assoc]
    have h4 : (fixL 4 (sumV (fixL 2 u.length ++ u))).length = 4 := fixL_len 4 _
    rw [List.take_append_of_le_length (by omega), List.take_of_length_le (by omega), List.drop_append, List.drop_eq_nil_of_le (by omega), h4]
    simp
  have px := part t
  have py := part ((y.drop 6).take t.length)
  rw [h3] at py
  by_cases h4 : i < 4
  · have hdrop : y.drop 4 = (sealL t).drop 4 := by rw [← hy, List.drop_set_of_lt h4]
    rw [hdrop, ← px] at py
    have : y = sealL t := by rw [← List.take_append_drop 4 y, py, hdrop, List.take_append_drop]
    have hg : y[i]? = (sealL t)[i]? := by rw [this]
    rw [← hy, List.getElem?_set_self hi, List.getElem?_eq_getElem hi] at hg
    exact hd (Option.some.inj hg)
  · have htake : y.take 4 = (sealL t).take 4 := by
      rw [← hy, List.take_set_of_le (by omega)]
    rw [htake, px] at py
    have hs : sumV ((sealL t).drop 4) = sumV (y.drop 4) := by
      have := congrArg fixV py
      rw [fixV_fixL 4 _ (by rw [pow4]; exact sumV_lt _), fixV_fixL 4 _ (by rw [pow4]; exact sumV_lt _)] at this
      exact this
    have hA : (sealL t).drop 4 = (((sealL t).drop 4).take (i - 4)) ++ (sealL t)[i] :: ((sealL t).drop (i + 1)) := by
      have hlt : i - 4 < ((sealL t).drop 4).length := by rw [List.length_drop]; omega
      conv => lhs; rw [← List.take_append_drop (i - 4) ((sealL t).drop 4)]
      congr 1
      rw [List.drop_drop, show 4 + (i - 4) = i by omega, List.drop_eq_getElem_cons hi]
    have hB : y.drop 4 = (((sealL t).drop 4).take (i - 4)) ++ d :: ((sealL t).drop (i + 1)) := by
      have hyi : i < y.length := by omega
      conv => lhs; rw [← List.take_append_drop (i - 4) (y.drop 4)]
      have e1 : (y.drop 4).take (i - 4) = ((sealL t).drop 4).take (i - 4) := by
        rw [← hy, ← List.drop_take, ← List.drop_take, List.take_set_of_le (by omega)]
      have e2 : (y.drop 4).drop (i - 4) = d :: (sealL t).drop (i + 1) := by
        rw [List.drop_drop, show 4 + (i - 4) = i by omega, List.drop_eq_getElem_cons hyi]
        congr 1
        · simp [← hy]
        · rw [← hy, List.drop_set_of_lt (by omega)]
      rw [e1, e2]
    rw [hA, hB] at hs
    exact sumV_turned _ _ (fun h => hd h.symm) hs
end Go.Proofs.YtknhlipealekoaaDoor.K
