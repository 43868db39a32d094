/- The document's sum, frame, and the frame at a place. -/
import Derived.Test.YtknhlipealekoaaDoorSpecRef
import Derived.Test.YtknhlipealekoaaDoorSpecCrc
import Derived.Test.YtknhlipealekoaaDoorLib3
import Derived.Test.YtknhlipealekoaaDoorGladingref03
set_option linter.unusedVariables false
set_option linter.unusedSimpArgs false
namespace Go.Proofs.YtknhlipealekoaaDoor.K
open Go
/-! ### the document's sum, and frame -/
theorem refBits {F : Nat} {K : Int → SH → Prop} {R1 : ByteArray → Int → Int → SH → Prop} {s : ByteArray} {x10 : Int} (H : SH) : ∀ (m k : Nat) (x : BitVec 32), m ≤ 8 → m < k → R1 s ((bitsB m x).toNat : Int) (w64 (x10 + 1)) H → ladingref03_Sum.l2 F K R1 k s (x.toNat : Int) x10 ((8 - m : Nat) : Int) H := by
  intro m
  induction m with
  | zero =>
    intro k x hm hk h
    obtain ⟨k, rfl⟩ : ∃ j, k = j + 1 := ⟨k - 1, by omega⟩
    exact br_f (by omega) h
  | succ m ih =>
    intro k x hm hk h
    obtain ⟨k, rfl⟩ : ∃ j, k = j + 1 := ⟨k - 1, by omega⟩
    have hx := x.isLt
    have e : w64 (((8 - (m + 1) : Nat) : Int) + 1) = ((8 - m : Nat) : Int) := by rw [w64_id (by omega)]; omega
    have hmod : ((x.toNat : Int)).tmod 2 = ((x.toNat % 2 : Nat) : Int) := by rw [Int.tmod_eq_emod_of_nonneg (by omega)]; omega
    have hdiv : w64 (((x.toNat : Int)).tdiv 2) = ((x >>> 1).toNat : Int) := by
      rw [Int.tdiv_eq_ediv_of_nonneg (by omega), w64_id (by omega), BitVec.toNat_ushiftRight, Nat.shiftRight_eq_div_pow]; omega
    have hand : (x &&& 1#32).toNat = x.toNat % 2 := by rw [BitVec.toNat_and]; exact Nat.and_one_is_mod _
    refine br_t (by omega) ⟨fun c => ?_, fun c => ?_⟩
    · rw [hmod] at c
      show ladingref03_Sum.l2 F K R1 k s (ibits .xor .i64 (w64 (((x.toNat : Int)).tdiv 2)) 2197175160) x10 (w64 (((8 - (m + 1) : Nat) : Int) + 1)) H
      have hp : ibits .xor .i64 (((x >>> 1).toNat : Int)) 2197175160 = (((x >>> 1) ^^^ polyB).toNat : Int) := by
        have := (x >>> 1).isLt
        rw [ibits_xor (by omega) (by omega) (by omega) (by omega), BitVec.toNat_xor]; rfl
      rw [hdiv, hp, e]
      refine ih k _ (by omega) (by omega) ?_
      have : bitB x = (x >>> 1) ^^^ polyB := if_pos (by omega)
      rw [← this]; exact h
    · rw [hmod] at c
      show ladingref03_Sum.l2 F K R1 k s (w64 (((x.toNat : Int)).tdiv 2)) x10 (w64 (((8 - (m + 1) : Nat) : Int) + 1)) H
      rw [hdiv, e]
      refine ih k _ (by omega) (by omega) ?_
      have : bitB x = x >>> 1 := if_neg (by omega)
      rw [← this]; exact h
theorem refSum_spec {F : Nat} (hF : 10 ≤ F) {s : ByteArray} (hs : s.size < F) (hs2 : s.size ≤ 4611686018427387904) {H : SH} {K : Int → SH → Prop} (h : K (sumV (bs s) : Int) H) : ladingref03_Sum.wp F s H K := by
  have key : ∀ (m i k : Nat), s.size - i = m → i ≤ s.size → m < k → ladingref03_Sum.l1 F K k s ((crcB 4294967295#32 ((bs s).take i)).toNat : Int) i H := by
    intro m
    induction m with
    | zero =>
      intro i k hm hi hk
      obtain ⟨k, rfl⟩ : ∃ j, k = j + 1 := ⟨k - 1, by omega⟩
      refine br_f (by omega) ⟨H, .refl H, ?_⟩
      rw [List.take_of_length_le (by rw [bs_len]; omega)]
      have hx := (crcB 4294967295#32 (bs s)).isLt
      have e : ((sumV (bs s) : Nat) : Int) = 4294967295 - ((crcB 4294967295#32 (bs s)).toNat : Int) := by
        unfold sumV
        have h1 : (4294967295#32 : BitVec 32) = BitVec.allOnes 32 := by decide
        rw [BitVec.xor_comm, h1, BitVec.xor_allOnes, BitVec.toNat_not]
        rw [← h1]; omega
      rw [w64_id (by omega), ← e]; exact h
    | succ m ih =>
      intro i k hm hi hk
      obtain ⟨k, rfl⟩ : ∃ j, k = j + 1 := ⟨k - 1, by omega⟩
      have hlt : i < (bs s).length := by rw [bs_len]; omega
      refine br_t (by omega) ⟨by omega, by omega, ?_⟩
      have hc := ((bs s)[i]).toNat_lt
      have hx := (crcB 4294967295#32 ((bs s).take i)).isLt
      rw [bt_eq hlt, w64_id (by omega), ibits_xor (by omega) (by omega) (by omega) (by omega)]
      simp only [Int.toNat_natCast]
      have e : (crcB 4294967295#32 ((bs s).take i)).toNat ^^^ ((bs s)[i]).toNat = (crcB 4294967295#32 ((bs s).take i) ^^^ BitVec.ofNat 32 ((bs s)[i]).toNat).toNat := by
        rw [BitVec.toNat_xor, BitVec.toNat_ofNat, Nat.mod_eq_of_lt (by omega)]
      rw [e]
      refine refBits H 8 F _ (by omega) (by omega) ?_
      rw [w64_id (by omega), show (i : Int) + 1 = ((i + 1 : Nat) : Int) by omega]
      have := ih (i + 1) k (by omega) (by omega) (by omega)
      rw [crcB_take hlt] at this
      exact this
  have := key s.size 0 F (by omega) (by omega) hs
  exact this
theorem refSeal_spec {F : Nat} (hF : 10 ≤ F) {s : ByteArray} (hs : s.size ≤ 60000) (hsF : s.size + 2 < F) {H : SH} {K : ByteArray → SH → Prop} (h : K (ofL (sealL (bs s))) H) : ladingref03_Seal.wp F s H K := by
  have hlen := fixL_len 2 s.size
  have hcat : bs (ofL (fixL 2 s.size) ++ s) = fixL 2 s.size ++ bs s := by rw [bs_append, bs_ofL]
  have hsz : (ofL (fixL 2 s.size) ++ s).size = s.size + 2 := by rw [← bs_len, hcat, List.length_append, hlen, bs_len]; omega
  have hsum := sumV_lt (fixL 2 s.size ++ bs s)
  refine refFixed_spec (n := 2) (x := s.size) (by omega) (by omega) hF ⟨by rw [ofL_size, hlen]; omega, refSum_spec hF (by omega) (by omega) ?_⟩
  rw [hcat]
  have h4 := fixL_len 4 (sumV (fixL 2 s.size ++ bs s))
  refine refFixed_spec (n := 4) (x := sumV (fixL 2 s.size ++ bs s)) (by omega) (by omega) hF ⟨by rw [ofL_size, h4, hsz]; omega, H, .refl H, ?_⟩
  have e : ofL (fixL 4 (sumV (fixL 2 s.size ++ bs s))) ++ (ofL (fixL 2 s.size) ++ s) = ofL (sealL (bs s)) := by
    apply bs_inj
    rw [bs_append, bs_append, bs_ofL, bs_ofL, bs_ofL]
    unfold sealL
    rw [bs_len, List.append_assoc]
  rw [e]; exact h

theorem wrl_bytes {l : List UInt8} {i : Nat} {c : UInt8} (h : i < l.length) : wrl (byteCells l) i [.int .u8 (c.toNat : Int)] = byteCells (l.set i c) := by
  have hl : i < (byteCells l).length := by rw [byteCells_len]; exact h
  apply List.ext_getElem?
  intro j
  rw [wrl_get hl]
  unfold byteCells
  rw [List.getElem?_map, List.getElem?_map, List.getElem?_set]
  by_cases hj : j = i
  · subst hj; simp [h]
  · rw [if_neg hj, if_neg (fun h => hj h.symm)]
theorem xor8S (c d : UInt8) : ibits .xor .u8 (c.toNat : Int) (d.toNat : Int) = ((c ^^^ d).toNat : Int) := by
  have := c.toNat_lt; have := d.toNat_lt
  rw [ibits_xor8 (by omega) (by omega) (by omega) (by omega), UInt8.toNat_xor]; rfl

def NgK (K : ByteArray → Int → Int → SH → Prop) (s : ByteArray) (p : Nat) (H : SH) : Nx → Prop
  | .ok n => K (s.extract (p + 6) (p + 6 + n)) ((p + 6 + n : Nat) : Int) 0 H
  | .no c => K ByteArray.empty p c H
end Go.Proofs.YtknhlipealekoaaDoor.K
