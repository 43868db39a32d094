/- The law FrameSeals: any text has the frame that the document says, and is read of it; turned in one byte it is none's. -/
import Derived.Test.YtpnbehgkbfhacaaDoorSpecCrc
import Derived.Test.YtpnbehgkbfhacaaDoorSpecRef
import Derived.Test.YtpnbehgkbfhacaaDoorGlaw03
import Derived.Test.YtpnbehgkbfhacaaDoorApi2
import Derived.Test.YtpnbehgkbfhacaaDoorArgs
set_option linter.unusedVariables false
set_option linter.unusedSimpArgs false
namespace Go.Proofs.YtpnbehgkbfhacaaDoor.K
open Go
theorem CodeS {F : Nat} {e : Option EV} {H : SH} {K : Int → SH → Prop} (hg : H.has (0, 0) (rtv 24)) (h : K (codeV e) H) : api_Code.wp F e H K := ⟨hg, h⟩
theorem PlaceS {F : Nat} {e : Option EV} {H : SH} {K : Int → SH → Prop} (hg : H.has (0, 0) (rtv 24)) (h : K (placeV e) H) : api_Place.wp F e H K := ⟨hg, h⟩
theorem awakeD03_spec {F : Nat} (hF : 3000 ≤ F) {H : SH} {K : Bool → SH → Prop} (h : K true H) : ladinglaw03_awake.wp F H K := by
  refine Seal_spec (by omega) (by decide) (show (1 : Nat) < F by omega) ?_
  have hx : bs (⟨#[120]⟩ : ByteArray) = [120] := rfl
  rw [hx]
  have hn := nextL_seal (t := [120]) (by decide) []
  rw [List.append_nil] at hn
  refine Open_whole (n := 1) (by omega) (by rw [ofL_size, sealL_len]; decide) (by rw [ofL_size, sealL_len]; show (7 : Nat) < F; omega) (by rw [bs_ofL]; exact hn) (by rw [ofL_size, sealL_len]; rfl) ?_
  intro b hb
  refine Sum_one (by omega) (show (9 : Nat) < F by omega) (by decide) ?_
  have hsum : sumV (bs (⟨#[49, 50, 51, 52, 53, 54, 55, 56, 57]⟩ : ByteArray)) = 3808858755 := by kernel_rfl
  rw [hsum]
  refine br_t rfl (o_none (o_none ⟨H, le_upd hb, ?_⟩))
  have e : (ofL (sealL [120])).extract 6 (6 + 1) = (⟨#[120]⟩ : ByteArray) := by
    apply bs_inj
    rw [bs_extract, bs_ofL]
    have : (sealL [120]).length = 7 := sealL_len _
    rw [List.take_of_length_le (by omega)]
    unfold sealL
    have : (fixL 4 (sumV (fixL 2 [(120 : UInt8)].length ++ [120])) ++ fixL 2 [(120 : UInt8)].length).length = 6 := by simp [fixL_len]
    rw [← this, List.drop_left]; rfl
  rw [decide_eq_true e]
  exact h

/-! ### the document's sum, and frame -/
theorem refBits {F : Nat} {K : Int → SH → Prop} {R1 : ByteArray → Int → Int → SH → Prop} {s : ByteArray} {x10 : Int} (H : SH) : ∀ (m k : Nat) (x : BitVec 32), m ≤ 8 → m < k → R1 s ((bitsB m x).toNat : Int) (w64 (x10 + 1)) H → ladingref03_Sum.l2 F K R1 k s (x.toNat : Int) x10 ((8 - m : Nat) : Int) H := by
  intro m
  induction m with
  | zero =>
    intro k x hm hk h
    obtain ⟨k, rfl⟩ : ∃ j, k = j + 1 := ⟨k - 1, by omega⟩
    exact br_f (by omega) h
  | succ m ih =>
    intro k x hm hk h
    obtain ⟨k, rfl⟩ : ∃ j, k = j + 1 := ⟨k - 1, by omega⟩
    have hx := x.isLt
    have e : w64 (((8 - (m + 1) : Nat) : Int) + 1) = ((8 - m : Nat) : Int) := by rw [w64_id (by omega)]; omega
    have hmod : ((x.toNat : Int)).tmod 2 = ((x.toNat % 2 : Nat) : Int) := by rw [Int.tmod_eq_emod_of_nonneg (by omega)]; omega
    have hdiv : w64 (((x.toNat : Int)).tdiv 2) = ((x >>> 1).toNat : Int) := by
      rw [Int.tdiv_eq_ediv_of_nonneg (by omega), w64_id (by omega), BitVec.toNat_ushiftRight, Nat.shiftRight_eq_div_pow]; omega
    have hand : (x &&& 1#32).toNat = x.toNat % 2 := by rw [BitVec.toNat_and]; exact Nat.and_one_is_mod _
    refine br_t (by omega) ⟨fun c => ?_, fun c => ?_⟩
    · rw [hmod] at c
      show ladingref03_Sum.l2 F K R1 k s (ibits .xor .i64 (w64 (((x.toNat : Int)).tdiv 2)) 2197175160) x10 (w64 (((8 - (m + 1) : Nat) : Int) + 1)) H
      have hp : ibits .xor .i64 (((x >>> 1).toNat : Int)) 2197175160 = (((x >>> 1) ^^^ polyB).toNat : Int) := by
        have := (x >>> 1).isLt
        rw [ibits_xor (by omega) (by omega) (by omega) (by omega), BitVec.toNat_xor]; rfl
      rw [hdiv, hp, e]
      refine ih k _ (by omega) (by omega) ?_
      have : bitB x = (x >>> 1) ^^^ polyB := if_pos (by omega)
      rw [← this]; exact h
    · rw [hmod] at c
      show ladingref03_Sum.l2 F K R1 k s (w64 (((x.toNat : Int)).tdiv 2)) x10 (w64 (((8 - (m + 1) : Nat) : Int) + 1)) H
      rw [hdiv, e]
      refine ih k _ (by omega) (by omega) ?_
      have : bitB x = x >>> 1 := if_neg (by omega)
      rw [← this]; exact h
theorem refSum_spec {F : Nat} (hF : 10 ≤ F) {s : ByteArray} (hs : s.size < F) (hs2 : s.size ≤ 4611686018427387904) {H : SH} {K : Int → SH → Prop} (h : K (sumV (bs s) : Int) H) : ladingref03_Sum.wp F s H K := by
  have key : ∀ (m i k : Nat), s.size - i = m → i ≤ s.size → m < k → ladingref03_Sum.l1 F K k s ((crcB 4294967295#32 ((bs s).take i)).toNat : Int) i H := by
    intro m
    induction m with
    | zero =>
      intro i k hm hi hk
      obtain ⟨k, rfl⟩ : ∃ j, k = j + 1 := ⟨k - 1, by omega⟩
      refine br_f (by omega) ⟨H, .refl H, ?_⟩
      rw [List.take_of_length_le (by rw [bs_len]; omega)]
      have hx := (crcB 4294967295#32 (bs s)).isLt
      have e : ((sumV (bs s) : Nat) : Int) = 4294967295 - ((crcB 4294967295#32 (bs s)).toNat : Int) := by
        unfold sumV
        have h1 : (4294967295#32 : BitVec 32) = BitVec.allOnes 32 := by decide
        rw [BitVec.xor_comm, h1, BitVec.xor_allOnes, BitVec.toNat_not]
        rw [← h1]; omega
      rw [w64_id (by omega), ← e]; exact h
    | succ m ih =>
      intro i k hm hi hk
      obtain ⟨k, rfl⟩ : ∃ j, k = j + 1 := ⟨k - 1, by omega⟩
      have hlt : i < (bs s).length := by rw [bs_len]; omega
      refine br_t (by omega) ⟨by omega, by omega, ?_⟩
      have hc := ((bs s)[i]).toNat_lt
      have hx := (crcB 4294967295#32 ((bs s).take i)).isLt
      rw [bt_eq hlt, w64_id (by omega), ibits_xor (by omega) (by omega) (by omega) (by omega)]
      simp only [Int.toNat_natCast]
      have e : (crcB 4294967295#32 ((bs s).take i)).toNat ^^^ ((bs s)[i]).toNat = (crcB 4294967295#32 ((bs s).take i) ^^^ BitVec.ofNat 32 ((bs s)[i]).toNat).toNat := by
        rw [BitVec.toNat_xor, BitVec.toNat_ofNat, Nat.mod_eq_of_lt (by omega)]
      rw [e]
      refine refBits H 8 F _ (by omega) (by omega) ?_
      rw [w64_id (by omega), show (i : Int) + 1 = ((i + 1 : Nat) : Int) by omega]
      have := ih (i + 1) k (by omega) (by omega) (by omega)
      rw [crcB_take hlt] at this
      exact this
  have := key s.size 0 F (by omega) (by omega) hs
  exact this
theorem refSeal_spec {F : Nat} (hF : 10 ≤ F) {s : ByteArray} (hs : s.size ≤ 60000) (hsF : s.size + 2 < F) {H : SH} {K : ByteArray → SH → Prop} (h : K (ofL (sealL (bs s))) H) : ladingref03_Seal.wp F s H K := by
  have hlen := fixL_len 2 s.size
  have hcat : bs (ofL (fixL 2 s.size) ++ s) = fixL 2 s.size ++ bs s := by rw [bs_append, bs_ofL]
  have hsz : (ofL (fixL 2 s.size) ++ s).size = s.size + 2 := by rw [← bs_len, hcat, List.length_append, hlen, bs_len]; omega
  have hsum := sumV_lt (fixL 2 s.size ++ bs s)
  refine refFixed_spec (n := 2) (x := s.size) (by omega) (by omega) hF ⟨by rw [ofL_size, hlen]; omega, refSum_spec hF (by omega) (by omega) ?_⟩
  rw [hcat]
  have h4 := fixL_len 4 (sumV (fixL 2 s.size ++ bs s))
  refine refFixed_spec (n := 4) (x := sumV (fixL 2 s.size ++ bs s)) (by omega) (by omega) hF ⟨by rw [ofL_size, h4, hsz]; omega, H, .refl H, ?_⟩
  have e : ofL (fixL 4 (sumV (fixL 2 s.size ++ bs s))) ++ (ofL (fixL 2 s.size) ++ s) = ofL (sealL (bs s)) := by
    apply bs_inj
    rw [bs_append, bs_append, bs_ofL, bs_ofL, bs_ofL]
    unfold sealL
    rw [bs_len, List.append_assoc]
  rw [e]; exact h

theorem NxK_ok {K : ByteArray → Int → Option EV → SH → Prop} {s : ByteArray} {p n : Nat} {H : SH} (h : K (s.extract (p + 6) (p + 6 + n)) ((p + 6 + n : Nat) : Int) none H) : NxK K s p H (.ok n) := h

/-! ### the law -/
theorem wrl_bytes {l : List UInt8} {i : Nat} {c : UInt8} (h : i < l.length) : wrl (byteCells l) i [.int .u8 (c.toNat : Int)] = byteCells (l.set i c) := by
  have hl : i < (byteCells l).length := by rw [byteCells_len]; exact h
  apply List.ext_getElem?
  intro j
  rw [wrl_get hl]
  unfold byteCells
  rw [List.getElem?_map, List.getElem?_map, List.getElem?_set]
  by_cases hj : j = i
  · subst hj; simp [h]
  · rw [if_neg hj, if_neg (fun h => hj h.symm)]
theorem xor8S (c d : UInt8) : ibits .xor .u8 (c.toNat : Int) (d.toNat : Int) = ((c ^^^ d).toNat : Int) := by
  have := c.toNat_lt; have := d.toNat_lt
  rw [ibits_xor8 (by omega) (by omega) (by omega) (by omega), UInt8.toNat_xor]; rfl
theorem Seals_j {F : Nat} (hF : 70000 ≤ F) {s : ByteArray} (hs : s.size ≤ 2000) {H : SH} (hg : H.has (0, 0) (rtv 24)) : ladinglaw03_FrameSeals.j1 F (fun b _ => b = true) (ofL (sealL (bs s))) H := by
  have hl := sealL_len (bs s)
  rw [bs_len] at hl
  have hsz : (ofL (sealL (bs s)) ++ (⟨#[122]⟩ : ByteArray)).size = s.size + 7 := by
    rw [← bs_len, bs_append, bs_ofL, List.length_append, hl]; rfl
  have hn : nextL (bs (ofL (sealL (bs s)) ++ (⟨#[122]⟩ : ByteArray))) = .ok s.size := by
    rw [bs_append, bs_ofL, nextL_seal (by rw [bs_len]; omega), bs_len]
  refine ⟨by rw [ofL_size, hl]; show s.size + 6 + 1 ≤ _; omega, Open_more (by omega) (by omega) (by omega) hn (by omega) ?_⟩
  obtain ⟨N, hN⟩ : ∃ N : Nat, (60001 : Int).toNat = N := ⟨_, rfl⟩
  have hN2 : N = 60001 := by omega
  rw [hN]
  clear hN
  refine ⟨by omega, by omega, fun b hb => ?_⟩
  have hz : (Builtin.zeroCells (Value.cells (.int .u8 0 : Value)) N).toList = byteCells (List.replicate N 0) := by
    rw [zeroCells_cells _ _ rfl]
    refine (byteCells_cellsF List.length_replicate fun i hi => ?_).symm
    rw [List.getElem_replicate]; rfl
  refine ⟨List.replicate N 0, List.length_replicate.symm, row_upd hz, ?_⟩
  have hle := le_upd (o := (⟨(Builtin.zeroCells (Value.cells (.int .u8 0 : Value)) N).toList, 5, false, N * 1⟩ : AO)) hb
  have hg' := hg.le hle
  refine Seal_long (s := ofL (List.replicate N 0)) (by rw [ofL_size, List.length_replicate]; omega) ?_
  refine br_t rfl (CodeS hg' (br_t rfl (PlaceS hg' (br_t ?_ (CodeS hg' ⟨_, .refl _, rfl⟩)))))
  show ((6 + s.size : Nat) : Int) = _
  rw [ofL_size, hl]; omega
theorem FrameSeals_wp {F : Nat} (hF : 70000 ≤ F) (s ah be : ByteArray) {x y : Int} (hx0 : 0 ≤ x) (hx1 : x ≤ 65535) (hy0 : 0 ≤ y) (hy1 : y ≤ 65535) {H : SH} (hg : H.has (0, 0) (rtv 24)) : ladinglaw03_FrameSeals.wp F s ah be x y H (fun b _ => b = true) := by
  intro b6 hb6 b8 hb8
  have k1 : ((H.upd b6 ⟨[.string ah, .string be], 39, false, 2⟩).upd b8 ⟨[.int .u16 x, .int .u16 y], 41, false, 2⟩).has (b8, 0) (.int .u16 x) := has_upd rfl
  have k2 : ((H.upd b6 ⟨[.string ah, .string be], 39, false, 2⟩).upd b8 ⟨[.int .u16 x, .int .u16 y], 41, false, 2⟩).has (b8, 1) (.int .u16 y) := has_upd rfl
  have hne : b6 ≠ b8 := by rintro rfl; rw [SH.upd_same] at hb8; cases hb8
  have k3 : ((H.upd b6 ⟨[.string ah, .string be], 39, false, 2⟩).upd b8 ⟨[.int .u16 x, .int .u16 y], 41, false, 2⟩).has (b6, 0) (.string ah) := has_upd_ne hne (has_upd rfl)
  have k4 : ((H.upd b6 ⟨[.string ah, .string be], 39, false, 2⟩).upd b8 ⟨[.int .u16 x, .int .u16 y], 41, false, 2⟩).has (b6, 1) (.string be) := has_upd_ne hne (has_upd rfl)
  have hgG : ((H.upd b6 ⟨[.string ah, .string be], 39, false, 2⟩).upd b8 ⟨[.int .u16 x, .int .u16 y], 41, false, 2⟩).has (0, 0) (rtv 24) := hg.le ((le_upd hb6).trans (le_upd hb8))
  generalize ((H.upd b6 ⟨[.string ah, .string be], 39, false, 2⟩).upd b8 ⟨[.int .u16 x, .int .u16 y], 41, false, 2⟩) = G at k1 k2 k3 k4 hgG
  refine awakeD03_spec (by omega) (br_t rfl ⟨ah, k3, be, k4, ⟨fun _ => ⟨G, .refl G, rfl⟩, fun c1 => ⟨fun _ => ⟨G, .refl G, rfl⟩, fun c2 => ⟨fun _ => ⟨G, .refl G, rfl⟩, fun c3 => ?_⟩⟩⟩⟩)
  have hl := sealL_len (bs s)
  rw [bs_len] at hl
  have hsz : (ofL (sealL (bs s))).size = s.size + 6 := by rw [ofL_size, hl]
  refine Seal_spec (by omega) (by omega) (by omega) (refSeal_spec (by omega) (by omega) (by omega) (br_t rfl (o_none ?_)))
  have hall : bs (ah ++ ofL (sealL (bs s)) ++ be) = bs ah ++ (sealL (bs s) ++ bs be) := by rw [bs_append, bs_append, bs_ofL, List.append_assoc]
  have hsz2 : ∀ a b : ByteArray, (a ++ b).size = a.size + b.size := fun a b => by rw [← bs_len, bs_append, List.length_append, bs_len, bs_len]
  have hasz : (ah ++ ofL (sealL (bs s)) ++ be).size = ah.size + (s.size + 6) + be.size := by rw [hsz2, hsz2, hsz]
  refine ⟨by rw [hsz]; omega, by rw [hsz2, hsz]; omega, Next_spec (by omega) (by omega) (by omega) (by omega) ?_⟩
  have hd : (bs (ah ++ ofL (sealL (bs s)) ++ be)).drop ah.size = sealL (bs s) ++ bs be := by rw [hall, ← bs_len ah, List.drop_left]
  rw [hd, nextL_seal (by rw [bs_len]; omega)]
  have hnx : nextL (bs (ofL (sealL (bs s)))) = .ok s.size := by
    have := nextL_seal (t := bs s) (by rw [bs_len]; omega) []
    rw [List.append_nil] at this
    rw [bs_ofL, this, bs_len]
  have e6 : ∀ r : List UInt8, (sealL (bs s) ++ r).drop 6 = bs s ++ r := fun r => by
    unfold sealL
    have : (fixL 4 (sumV (fixL 2 (bs s).length ++ bs s)) ++ fixL 2 (bs s).length).length = 6 := by simp [fixL_len]
    rw [List.append_assoc _ (bs s), ← this, List.drop_left]
  have t1 : (ah ++ ofL (sealL (bs s)) ++ be).extract (ah.size + 6) (ah.size + 6 + (bs s).length) = s := by
    apply bs_inj
    rw [bs_extract, List.drop_take, ← List.drop_drop, hd, e6, show ah.size + 6 + (bs s).length - (ah.size + 6) = (bs s).length by omega, List.take_left]
  have t2 : (ofL (sealL (bs s))).extract 6 (6 + s.size) = s := by
    apply bs_inj
    have := e6 []
    rw [List.append_nil, List.append_nil] at this
    rw [bs_extract, bs_ofL, List.drop_take, this, show 6 + s.size - 6 = (bs s).length by rw [bs_len]; omega, List.take_length]
  refine NxK_ok (Open_whole (by omega) (by omega) (by omega) hnx (by omega) ?_)
  refine br_t t1 (br_f ?_ (o_none (br_t t2 (o_none ?_))))
  · rw [w64_id (by omega), hsz, bs_len]; simp; omega
  intro b41 n42 hb hc
  have hle := le_upd (o := (⟨byteCells (ofL (sealL (bs s))).data.toList, 5, false, n42⟩ : AO)) hb
  have hlen0 : (((⟨some (b41, 0), (ofL (sealL (bs s))).size, n42⟩ : Sl).len : Nat) : Int) = ((s.size + 6 : Nat) : Int) := by rw [← hsz]
  refine ⟨x, k1.le hle, by rw [hlen0]; omega, ?_⟩
  rw [hlen0, w64_id (x := x) (by omega), Int.tmod_eq_emod_of_nonneg hx0]
  have hi0 := Int.emod_nonneg x (show (((s.size + 6 : Nat) : Int)) ≠ 0 by omega)
  have hi1 := Int.emod_lt_of_pos x (show 0 < (((s.size + 6 : Nat) : Int)) by omega)
  obtain ⟨i, hi⟩ : ∃ i : Nat, x % ((s.size + 6 : Nat) : Int) = i := ⟨(x % ((s.size + 6 : Nat) : Int)).toNat, by omega⟩
  rw [hi] at hi0 hi1 ⊢
  have hil : i < (sealL (bs s)).length := by omega
  have hcells : (ofL (sealL (bs s))).data.toList = sealL (bs s) := bs_ofL _
  have hu8 : IntKind.u8.wrap y = (((UInt8.ofNat (y % 256).toNat).toNat : Nat) : Int) := by
    rw [u8_mod, UInt8.toNat_ofNat_of_lt' (by show _ < 256; omega)]; omega
  have hget : (byteCells (ofL (sealL (bs s))).data.toList)[0 + (i : Int).toNat * 1]? = some (.int .u8 (((sealL (bs s))[i]).toNat : Int)) := by
    rw [hcells, show 0 + (i : Int).toNat * 1 = i by omega]
    simp [byteCells, hil]
  refine ⟨(b41, 0), rfl, by omega, by omega, (((sealL (bs s))[i]).toNat : Int), has_upd hget, y, k2.le hle, (b41, 0), rfl, by omega, by omega, wrs_upd rfl (by simp only [byteCells_len]; rw [hcells]; omega), ?_⟩
  rw [hu8, xor8S, setl_upd]
  simp only [hcells, show 0 + (i : Int).toNat * 1 = i by omega, wrl_bytes hil]
  have hyl : ((sealL (bs s)).set i ((sealL (bs s))[i] ^^^ UInt8.ofNat (y % 256).toNat)).length = s.size + 6 := by rw [List.length_set, hl]
  have hle' : SH.le G (G.upd b41 ⟨byteCells ((sealL (bs s)).set i ((sealL (bs s))[i] ^^^ UInt8.ofNat (y % 256).toNat)), 5, false, n42⟩) := le_upd hb
  refine ⟨(sealL (bs s)).set i ((sealL (bs s))[i] ^^^ UInt8.ofNat (y % 256).toNat), by rw [hyl, ← hsz], row_upd rfl, ?_⟩
  have hosz : (ofL ((sealL (bs s)).set i ((sealL (bs s))[i] ^^^ UInt8.ofNat (y % 256).toNat))).size = s.size + 6 := by rw [ofL_size, hyl]
  have hj := Seals_j (F := F) hF (s := s) (by omega) (hgG.le hle')
  have hk := k2.le hle'
  have bad : ∀ e : EV, ∃ x67, (G.upd b41 ⟨byteCells ((sealL (bs s)).set i ((sealL (bs s))[i] ^^^ UInt8.ofNat (y % 256).toNat)), 5, false, n42⟩).has (b8, 1) (.int .u16 x67) ∧ (IntKind.u8.wrap x67 ≠ 0 → ((ByteArray.empty = ByteArray.empty) → (some e = none → ∃ Hr, SH.le Hr (G.upd b41 ⟨byteCells ((sealL (bs s)).set i ((sealL (bs s))[i] ^^^ UInt8.ofNat (y % 256).toNat)), 5, false, n42⟩) ∧ false = true) ∧ (∀ v71, some e = some v71 → ladinglaw03_FrameSeals.j1 F (fun b _ => b = true) (ofL (sealL (bs s))) (G.upd b41 ⟨byteCells ((sealL (bs s)).set i ((sealL (bs s))[i] ^^^ UInt8.ofNat (y % 256).toNat)), 5, false, n42⟩))) ∧ (¬ ((ByteArray.empty = ByteArray.empty)) → ∃ Hr, SH.le Hr (G.upd b41 ⟨byteCells ((sealL (bs s)).set i ((sealL (bs s))[i] ^^^ UInt8.ofNat (y % 256).toNat)), 5, false, n42⟩) ∧ false = true)) ∧ (¬ (IntKind.u8.wrap x67 ≠ 0) → ladinglaw03_FrameSeals.j1 F (fun b _ => b = true) (ofL (sealL (bs s))) (G.upd b41 ⟨byteCells ((sealL (bs s)).set i ((sealL (bs s))[i] ^^^ UInt8.ofNat (y % 256).toNat)), 5, false, n42⟩)) := fun e =>
    ⟨y, hk, fun _ => br_t rfl (o_some hj), fun _ => hj⟩
  have hosz2 : (⟨((sealL (bs s)).set i ((sealL (bs s))[i] ^^^ UInt8.ofNat (y % 256).toNat)).toArray⟩ : ByteArray).size = s.size + 6 := hosz
  have hbso : bs (⟨((sealL (bs s)).set i ((sealL (bs s))[i] ^^^ UInt8.ofNat (y % 256).toNat)).toArray⟩ : ByteArray) = (sealL (bs s)).set i ((sealL (bs s))[i] ^^^ UInt8.ofNat (y % 256).toNat) := bs_ofL _
  cases hx : nextL ((sealL (bs s)).set i ((sealL (bs s))[i] ^^^ UInt8.ofNat (y % 256).toNat)) with
  | no c => exact Open_no (by omega) (by omega) (by omega) (by rw [hbso]; exact hx) (bad _)
  | ok n =>
    obtain ⟨g1, g2, g3⟩ := nextL_ok hx
    rw [hyl] at g1
    by_cases hn : n + 6 = s.size + 6
    · refine Open_whole (by omega) (by omega) (by omega) (by rw [hbso]; exact hx) (by omega) ⟨y, hk, fun c => ?_, fun _ => hj⟩
      exfalso
      have hd0 : (sealL (bs s))[i] ^^^ UInt8.ofNat (y % 256).toNat ≠ (sealL (bs s))[i] := by
        intro h
        have h2 : UInt8.ofNat (y % 256).toNat = 0 := by
          have : (sealL (bs s))[i] ^^^ ((sealL (bs s))[i] ^^^ UInt8.ofNat (y % 256).toNat) = (sealL (bs s))[i] ^^^ (sealL (bs s))[i] := by rw [h]
          rwa [← UInt8.xor_assoc, UInt8.xor_self, UInt8.zero_xor] at this
        apply c
        rw [hu8, h2]; rfl
      exact seal_turned (t := bs s) (by rw [bs_len]; omega) hil hd0 hx (by rw [hl]; exact hn)
    · exact Open_more (by omega) (by omega) (by omega) (by rw [hbso]; exact hx) (by omega) (bad _)
set_option maxRecDepth 100000 in
open Go.RowKit Go.ChangeShapes Go.WideShapes Go.ChangeAt in
theorem FrameSeals_walk {X : Prop} {H : Type} {enc : TypeId × Value → H} (W : World) (args : Array Value) (ds : List (DataW H)) (p : List MemPlace) (base : Nat)
    (hval : ∀ (j : Nat) t v, Tryd.f5.params[j]? = some t → args[j]? = some v → Value.okWide Tryd.prog W .any base t v) (hA : DataW.TrodAll enc Tryd.prog W 0 (fun _ => true) true Tryd.f5.params.toList args.toList ds p) (hfz : X)
    (hg : W.cell? ⟨0, 0, none⟩ = some (rtv 24)) :
    (∃ d d2 d3, ds = [d, d2, d3]) ∧ Calls Tryd.prog 5 args W fun e w' => e = .returned (.bool true) ∧ RowKit.Below W.heap.size W w' := by
  rw [Tryd.params5] at hA hval
  obtain ⟨v0, vs0, d0, ds0, p0, q0, hargs, rfl, rfl, h0, r0⟩ := trodAll_cons hA
  obtain ⟨v1, vs1, d1, ds1, p1, q1, rfl, rfl, rfl, h1, r1⟩ := trodAll_cons r0
  obtain ⟨v2, vs2, d2, ds2, p2, q2, rfl, rfl, rfl, h2, r2⟩ := trodAll_cons r1
  obtain ⟨rfl, rfl, rfl⟩ := trodAll_nil r2
  obtain rfl : args = #[v0, v1, v2] := by cases args; simp_all
  obtain ⟨s, rfl, rfl, rfl, hs⟩ := Go.ChangeMaps.open_string Tryd.underlying9 (hval 0 9 v0 rfl rfl) h0
  obtain ⟨cs, rfl, hlen, hcell⟩ := arg_agg (ts := [9, 9]) (.inr ⟨_, Tryd.underlying39⟩) (by kernel_rfl) (by kernel_rfl) (hval 1 39 v1 rfl rfl)
  obtain ⟨c0, c1, rfl⟩ : ∃ a b, cs = [a, b] := by
    match cs, hlen with
    | [a, b], _ => exact ⟨a, b, rfl⟩
  obtain ⟨s0, rfl, g0⟩ := cell_str Tryd.underlying9 (hcell 0 c0 9 rfl rfl)
  obtain ⟨s1, rfl, g1⟩ := cell_str Tryd.underlying9 (hcell 1 c1 9 rfl rfl)
  obtain ⟨cs, rfl, hlen, hcell⟩ := arg_agg (ts := [40, 40]) (.inl ⟨_, _, Tryd.underlying41⟩) (by kernel_rfl) (by kernel_rfl) (hval 2 41 v2 rfl rfl)
  obtain ⟨c0, c1, rfl⟩ : ∃ a b, cs = [a, b] := by
    match cs, hlen with
    | [a, b], _ => exact ⟨a, b, rfl⟩
  obtain ⟨x, rfl, hx0, hx1⟩ := cell_int Tryd.underlying40 (hcell 0 c0 40 rfl rfl)
  obtain ⟨y, rfl, hy0, hy1⟩ := cell_int Tryd.underlying40 (hcell 1 c1 40 rfl rfl)
  refine ⟨⟨_, _, _, rfl⟩, ?_⟩
  have h := ladinglaw03_FrameSeals.sound 70000 s s0 s1 x y (SH.of W) _ (FrameSeals_wp (by omega) s s0 s1 hx0 hx1 hy0 hy1 (SH.of_cell (p := (0, 0)) hg)) W (SH.of_sat W)
  refine h.mono ?_
  rintro e w' ⟨v, H', rfl, st, q, rfl, rfl⟩
  exact ⟨rfl, st.below fun b o hb => SH.of_ro hb⟩
end Go.Proofs.YtpnbehgkbfhacaaDoor.K
