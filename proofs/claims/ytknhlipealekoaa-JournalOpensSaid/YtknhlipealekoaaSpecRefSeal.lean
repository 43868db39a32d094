/- The document's sum, frame, and the frame at a place. -/
import Derived.Test.YtknhlipealekoaaSpecRef
import Derived.Test.YtknhlipealekoaaSpecCrc
import Derived.Test.YtknhlipealekoaaLib3
import Derived.Test.YtknhlipealekoaaGladingref03
set_option linter.unusedVariables false
set_option linter.unusedSimpArgs false
namespace Go.Proofs.Ytknhlipealekoaa.K
open Go
/-! ### the document's sum, and frame -/
theorem refBits {F : Nat} {K : Int → SH → Prop} {R1 : ByteArray → Int → Int → SH → Prop} {s : ByteArray} {x10 : Int} (H : SH) : ∀ (m k : Nat) (x : BitVec 32), m ≤ 8 → m < k → R1 s ((bitsB m x).toNat : Int) (w64 (x10 + 1)) H → ladingref03_Sum.l2 F K R1 k s (x.toNat : Int) x10 ((8 - m : Nat) : Int) H := by
  intro m
  induction m with
  | zero =>
    intro k x hm hk h
    obtain ⟨k, rfl⟩ : ∃ j, k = j + 1 := ⟨k - 1, by omega⟩
    exact br_f (by omega) h
  | succ m ih =>
    intro k x hm hk h
    obtain ⟨k, rfl⟩ : ∃ j, k = j + 1 := ⟨k - 1, by omega⟩
    have hx := x.isLt
    have e : w64 (((8 - (m + 1) : Nat) : Int) + 1) = ((8 - m : Nat) : Int) := by rw [w64_id (by omega)]; omega
    have hmod : ((x.toNat : Int)).tmod 2 = ((x.toNat % 2 : Nat) : Int) := by rw [Int.tmod_eq_emod_of_nonneg (by omega)]; omega
    have hdiv : w64 (((x.toNat : Int)).tdiv 2) = ((x >>> 1).toNat : Int) := by
      rw [Int.tdiv_eq_ediv_of_nonneg (by omega), w64_id (by omega), BitVec.toNat_ushiftRight, Nat.shiftRight_eq_div_pow]; omega
    have hand : (x &&& 1#32).toNat = x.toNat % 2 := by rw [BitVec.toNat_and]; exact Nat.and_one_is_mod _
    refine br_t (by omega) ⟨fun c => ?_, fun c => ?_⟩
    · rw [hmod] at c
      show ladingref03_Sum.l2 F K R1 k s (ibits .xor .i64 (w64 (((x.toNat : Int)).tdiv 2)) 2197175160) x10 (w64 (((8 - (m + 1) : Nat) : Int) + 1)) H
      have hp : ibits .xor .i64 (((x >>> 1).toNat : Int)) 2197175160 = (((x >>> 1) ^^^ polyB).toNat : Int) := by
        have := (x >>> 1).isLt
        rw [ibits_xor (by omega) (by omega) (by omega) (by omega), BitVec.toNat_xor]; rfl
      rw [hdiv, hp, e]
      refine ih k _ (by omega) (by omega) ?_
      have : bitB x = (x >>> 1) ^^^ polyB := if_pos (by omega)
      rw [← this]; exact h
    · rw [hmod] at c
      show ladingref03_Sum.l2 F K R1 k s (w64 (((x.toNat : Int)).tdiv 2)) x10 (w64 (((8 - (m + 1) : Nat) : Int) + 1)) H
      rw [hdiv, e]
      refine ih k _ (by omega) (by omega) ?_
      have : bitB x = x >>> 1 := if_neg (by omega)
      rw [← this]; exact h
theorem refSum_spec {F : Nat} (hF : 10 ≤ F) {s : ByteArray} (hs : s.size < F) (hs2 : s.size ≤ 4611686018427387904) {H : SH} {K : Int → SH → Prop} (h : K (sumV (bs s) : Int) H) : ladingref03_Sum.wp F s H K := by
  have key : ∀ (m i k : Nat), s.size - i = m → i ≤ s.size → m < k → ladingref03_Sum.l1 F K k s ((crcB 4294967295#32 ((bs s).take i)).toNat : Int) i H := by
    intro m
    induction m with
    | zero =>
      intro i k hm hi hk
      obtain ⟨k, rfl⟩ : ∃ j, k = j + 1 := ⟨k - 1, by omega⟩
      refine br_f (by omega) ⟨H, .refl H, ?_⟩
      rw [List.take_of_length_le (by rw [bs_len]; omega)]
      have hx := (crcB 4294967295#32 (bs s)).isLt
      have e : ((sumV (bs s) : Nat) : Int) = 4294967295 - ((crcB 4294967295#32 (bs s)).toNat : Int) := by
        unfold sumV
        have h1 : (4294967295#32 : BitVec 32) = BitVec.allOnes 32 := by decide
        rw [BitVec.xor_comm, h1, BitVec.xor_allOnes, BitVec.toNat_not]
        rw [← h1]; omega
      rw [w64_id (by omega), ← e]; exact h
    | succ m ih =>
      intro i k hm hi hk
      obtain ⟨k, rfl⟩ : ∃ j, k = j + 1 := ⟨k - 1, by omega⟩
      have hlt : i < (bs s).length := by rw [bs_len]; omega
      refine br_t (by omega) ⟨by omega, by omega, ?_⟩
      have hc := ((bs s)[i]).toNat_lt
      have hx := (crcB 4294967295#32 ((bs s).take i)).isLt
      rw [bt_eq hlt, w64_id (by omega), ibits_xor (by omega) (by omega) (by omega) (by omega)]
      simp only [Int.toNat_natCast]
      have e : (crcB 4294967295#32 ((bs s).take i)).toNat ^^^ ((bs s)[i]).toNat = (crcB 4294967295#32 ((bs s).take i) ^^^ BitVec.ofNat 32 ((bs s)[i]).toNat).toNat := by
        rw [BitVec.toNat_xor, BitVec.toNat_ofNat, Nat.mod_eq_of_lt (by omega)]
      rw [e]
      refine refBits H 8 F _ (by omega) (by omega) ?_
      rw [w64_id (by omega), show (i : Int) + 1 = ((i + 1 : Nat) : Int) by omega]
      have := ih (i + 1) k (by omega) (by omega) (by omega)
      rw [crcB_take hlt] at this
      exact this
  have := key s.size 0 F (by omega) (by omega) hs
  exact this
theorem refSeal_spec {F : Nat} (hF : 10 ≤ F) {s : ByteArray} (hs : s.size ≤ 60000) (hsF : s.size + 2 < F) {H : SH} {K : ByteArray → SH → Prop} (h : K (ofL (sealL (bs s))) H) : ladingref03_Seal.wp F s H K := by
  have hlen := fixL_len 2 s.size
  have hcat : bs (ofL (fixL 2 s.size) ++ s) = fixL 2 s.size ++ bs s := by rw [bs_append, bs_ofL]
  have hsz : (ofL (fixL 2 s.size) ++ s).size = s.size + 2 := by rw [← bs_len, hcat, List.length_append, hlen, bs_len]; omega
  have hsum := sumV_lt (fixL 2 s.size ++ bs s)
  refine refFixed_spec (n := 2) (x := s.size) (by omega) (by omega) hF ⟨by rw [ofL_size, hlen]; omega, refSum_spec hF (by omega) (by omega) ?_⟩
  rw [hcat]
  have h4 := fixL_len 4 (sumV (fixL 2 s.size ++ bs s))
  refine refFixed_spec (n := 4) (x := sumV (fixL 2 s.size ++ bs s)) (by omega) (by omega) hF ⟨by rw [ofL_size, h4, hsz]; omega, H, .refl H, ?_⟩
  have e : ofL (fixL 4 (sumV (fixL 2 s.size ++ bs s))) ++ (ofL (fixL 2 s.size) ++ s) = ofL (sealL (bs s)) := by
    apply bs_inj
    rw [bs_append, bs_append, bs_ofL, bs_ofL, bs_ofL]
    unfold sealL
    rw [bs_len, List.append_assoc]
  rw [e]; exact h

theorem wrl_bytes {l : List UInt8} {i : Nat} {c : UInt8} (h : i < l.length) : wrl (byteCells l) i [.int .u8 (c.toNat : Int)] = byteCells (l.set i c) := by
  have hl : i < (byteCells l).length := by rw [byteCells_len]; exact h
  apply List.ext_getElem?
  intro j
  rw [wrl_get hl]
  unfold byteCells
  rw [List.getElem?_map, List.getElem?_map, List.getElem?_set]
  by_cases hj : j = i
  · subst hj; simp [h]
  · rw [if_neg hj, if_neg (fun h => hj h.symm)]
theorem xor8S (c d : UInt8) : ibits .xor .u8 (c.toNat : Int) (d.toNat : Int) = ((c ^^^ d).toNat : Int) := by
  have := c.toNat_lt; have := d.toNat_lt
  rw [ibits_xor8 (by omega) (by omega) (by omega) (by omega), UInt8.toNat_xor]; rfl

def NgK (K : ByteArray → Int → Int → SH → Prop) (s : ByteArray) (p : Nat) (H : SH) : Nx → Prop
  | .ok n => K (s.extract (p + 6) (p + 6 + n)) ((p + 6 + n : Nat) : Int) 0 H
  | .no c => K ByteArray.empty p c H
theorem refNext_spec {F : Nat} (hF : 10 ≤ F) {s : ByteArray} (hs : s.size ≤ 1000000) (hsF : s.size + 2 < F) {p : Nat} (hp : p ≤ s.size) {H : SH} {K : ByteArray → Int → Int → SH → Prop} (h : NgK K s p H (nextL ((bs s).drop p))) : ladingref03_Next.wp F s (p : Int) H K := by
  refine fun b3 hb3 => ?_
  have ret : ∀ (S : ByteArray) (nx e : Int), K S nx e H → SH.wrs (SH.upd H b3 ⟨[.string ByteArray.empty, .int .i64 0, .int .i64 0], 43, false, 3⟩) (b3, 0) 3 ∧
    ∃ (s7 : ByteArray) (x8 : Int) (x9 : Int),
    SH.row (SH.setl (SH.upd H b3 ⟨[.string ByteArray.empty, .int .i64 0, .int .i64 0], 43, false, 3⟩) (b3, 0) [.string S, .int .i64 nx, .int .i64 e]) (some (b3, 0)) [.string s7, .int .i64 x8, .int .i64 x9] ∧
    ∃ Hr, SH.le Hr (SH.setl (SH.upd H b3 ⟨[.string ByteArray.empty, .int .i64 0, .int .i64 0], 43, false, 3⟩) (b3, 0) [.string S, .int .i64 nx, .int .i64 e]) ∧ K s7 x8 x9 Hr := fun S nx e k => by
    have o := On.new (o := ⟨[.string ByteArray.empty, .int .i64 0, .int .i64 0], 43, false, 3⟩) hb3
    have q := On.setl (k := 0) (vs := [.string S, .int .i64 nx, .int .i64 e]) o
    exact ⟨o.wrs rfl (Nat.le_of_ble_eq_true rfl), S, nx, e, .inr ⟨(b3, 0), _, rfl, (On.blk.1 q).2.2, fun j u hu => by rw [Nat.zero_add]; exact hu⟩, H, q.le, k⟩
  have hl : ((bs s).drop p).length = s.size - p := by rw [List.length_drop, bs_len]
  unfold nextL at h
  rw [hl] at h
  refine br_f (by omega) (br_f (by omega) ?_)
  rw [w64_id (x := (p : Int) + 6) (by omega)]
  by_cases h6 : s.size - p < 6
  · rw [if_pos h6] at h
    exact br_t (by omega) (ret _ _ _ h)
  rw [if_neg h6] at h
  refine br_f (by omega) ?_
  have e4 : (((bs s).drop p).drop 4).take 2 = [(bs s)[p + 4]'(by rw [bs_len]; omega), (bs s)[p + 5]'(by rw [bs_len]; omega)] := by
    rw [List.drop_drop, List.drop_eq_getElem_cons (by rw [bs_len]; omega), List.drop_eq_getElem_cons (by rw [bs_len]; omega)]
    rfl
  have a4 := ((bs s)[p + 4]'(by rw [bs_len]; omega)).toNat_lt
  have a5 := ((bs s)[p + 5]'(by rw [bs_len]; omega)).toNat_lt
  have hv : fixV ((((bs s).drop p).drop 4).take 2) = ((bs s)[p + 4]'(by rw [bs_len]; omega)).toNat + 256 * ((bs s)[p + 5]'(by rw [bs_len]; omega)).toNat := by
    rw [e4]; simp [fixV]
  have hn : w64 (w64 (bt s (w64 ((p : Int) + 4))) + w64 (256 * w64 (bt s (w64 ((p : Int) + 5))))) = ((fixV ((((bs s).drop p).drop 4).take 2) : Nat) : Int) := by
    rw [w64_id (x := (p : Int) + 4) (by omega), w64_id (x := (p : Int) + 5) (by omega), show (p : Int) + 4 = ((p + 4 : Nat) : Int) by omega, show (p : Int) + 5 = ((p + 5 : Nat) : Int) by omega, bt_eq (by rw [bs_len]; omega), bt_eq (by rw [bs_len]; omega), hv]
    rw [w64_id (x := (((bs s)[p + 4]'(by rw [bs_len]; omega)).toNat : Int)) (by omega), w64_id (x := (((bs s)[p + 5]'(by rw [bs_len]; omega)).toNat : Int)) (by omega), w64_id (x := 256 * _) (by omega), w64_id (by omega)]
    omega
  rw [hn]
  have hlt : fixV ((((bs s).drop p).drop 4).take 2) < 65536 := by rw [hv]; omega
  have i2 : fixL 2 (fixV ((((bs s).drop p).drop 4).take 2)) = (((bs s).drop p).drop 4).take 2 := by
    have := fixL_fixV ((((bs s).drop p).drop 4).take 2)
    rwa [show ((((bs s).drop p).drop 4).take 2).length = 2 by rw [e4]; rfl] at this
  rw [w64_id (x := (p : Int) + 4) (by omega), w64_id (x := (p : Int) + 5) (by omega)]
  generalize hN : fixV ((((bs s).drop p).drop 4).take 2) = n at h hlt i2 ⊢
  refine ⟨by omega, by omega, by omega, by omega, ?_⟩
  by_cases hL : n > 60000
  · rw [if_pos hL] at h
    exact br_t (by omega) (ret _ _ _ h)
  rw [if_neg hL] at h
  refine br_f (by omega) ?_
  rw [w64_id (x := (p : Int) + 6 + (n : Int)) (by omega)]
  by_cases hM : n > s.size - p - 6
  · rw [if_pos hM] at h
    exact br_t (by omega) (ret _ _ _ h)
  rw [if_neg hM] at h
  refine br_f (by omega) ?_
  rw [show ((p : Int) + 6).toNat = p + 6 by omega, show ((p : Int) + 6 + (n : Int)).toNat = p + 6 + n by omega, show ((p : Int)).toNat = p by omega]
  have et : bs (s.extract (p + 6) (p + 6 + n)) = (((bs s).drop p).drop 6).take n := by
    rw [bs_extract, List.drop_drop, List.drop_take]; congr 1; omega
  have ea : bs (s.extract p (p + 6 + n)) = ((bs s).drop p).take (n + 6) := by
    rw [bs_extract, List.drop_take]; congr 1; omega
  have hts : (s.extract (p + 6) (p + 6 + n)).size = n := by
    rw [← bs_len, et, List.length_take, List.length_drop, hl]; omega
  refine ⟨by omega, by omega, by omega, by omega, by omega, by omega, ofL (sealL (bs (s.extract (p + 6) (p + 6 + n)))), refSeal_spec hF (by omega) (by omega) ⟨rfl, rfl⟩, ?_⟩
  -- the frame is this text's, just if the sum is
  have key : (s.extract p (p + 6 + n) = ofL (sealL (bs (s.extract (p + 6) (p + 6 + n))))) ↔ sumV ((((bs s).drop p).drop 4).take (2 + n)) = fixV (((bs s).drop p).take 4) := by
    have e26 : (((bs s).drop p).drop 4).take (2 + n) = (((bs s).drop p).drop 4).take 2 ++ (((bs s).drop p).drop 6).take n := by rw [List.take_add, show ((bs s).drop p).drop 6 = (((bs s).drop p).drop 4).drop 2 by rw [List.drop_drop (i := 2) (j := 4)]]
    have hl4 : (((bs s).drop p).take 4).length = 4 := by rw [List.length_take, hl]; omega
    have e6 : ((bs s).drop p).take (n + 6) = ((bs s).drop p).take 4 ++ (((bs s).drop p).drop 4).take (2 + n) := by
      rw [show n + 6 = 4 + (2 + n) by omega, List.take_add]
    have hlt2 : ((((bs s).drop p).drop 6).take n).length = n := by rw [List.length_take, List.length_drop, hl]; omega
    have es : sealL (bs (s.extract (p + 6) (p + 6 + n))) = fixL 4 (sumV ((((bs s).drop p).drop 4).take (2 + n))) ++ (((bs s).drop p).drop 4).take (2 + n) := by
      unfold sealL
      rw [et, hlt2, i2, ← e26, List.append_assoc, ← e26]
    constructor
    · intro h
      have h2 := congrArg bs h
      rw [ea, bs_ofL, es, e6] at h2
      have h3 := List.append_cancel_right h2
      rw [h3, fixV_fixL 4 _ (by rw [pow4]; exact sumV_lt _)]
    · intro h
      apply bs_inj
      rw [ea, bs_ofL, es, e6, h]
      have := fixL_fixV (((bs s).drop p).take 4)
      rw [hl4] at this
      rw [this]
  by_cases hS : sumV ((((bs s).drop p).drop 4).take (2 + n)) = fixV (((bs s).drop p).take 4)
  · rw [if_neg (fun c => c hS)] at h
    refine br_t (key.2 hS) ?_
    rw [show (p : Int) + 6 + (n : Int) = ((p + 6 + n : Nat) : Int) by omega]
    exact ret _ _ _ h
  · rw [if_pos hS] at h
    exact br_f (fun c => hS (key.1 c)) (ret _ _ _ h)
end Go.Proofs.Ytknhlipealekoaa.K
