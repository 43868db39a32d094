/- What the functions of package frame come to: the sum, frames. -/
import Derived.Test.YtknhlipealekoaaDoorSpecFix
import Derived.Test.YtknhlipealekoaaDoorGframe
set_option linter.unusedVariables false
set_option linter.unusedSimpArgs false
namespace Go.Proofs.YtknhlipealekoaaDoor.K
open Go

/-! ### the sum -/
def polyB : BitVec 32 := 2197175160#32
def bitB (x : BitVec 32) : BitVec 32 := if (x &&& 1#32).toNat = 1 then (x >>> 1) ^^^ polyB else x >>> 1
def bitsB : Nat → BitVec 32 → BitVec 32
  | 0, x => x
  | n + 1, x => bitsB n (bitB x)
def stepB (x : BitVec 32) (c : UInt8) : BitVec 32 := bitsB 8 (x ^^^ BitVec.ofNat 32 c.toNat)
def crcB (x : BitVec 32) (l : List UInt8) : BitVec 32 := l.foldl stepB x
def sumV (l : List UInt8) : Nat := (4294967295#32 ^^^ crcB 4294967295#32 l).toNat
theorem sumV_lt (l : List UInt8) : sumV l < 4294967296 := (4294967295#32 ^^^ crcB 4294967295#32 l).isLt

theorem shr1 (x : BitVec 32) : ishr .u32 (x.toNat : Int) 1 = ((x >>> 1).toNat : Int) := by
  have : min ((1 : Int).toNat) IntKind.u32.bits = 1 := by decide
  unfold ishr
  rw [this, Int.fdiv_eq_ediv_of_nonneg _ (by decide), BitVec.toNat_ushiftRight, Nat.shiftRight_eq_div_pow]
  simp
theorem step_loop {F : Nat} {K : Int → SH → Prop} (H : SH) : ∀ (m k : Nat) (x : BitVec 32), m ≤ 8 → m < k → K ((bitsB m x).toNat : Int) H → frame_step.l1 F K k (x.toNat : Int) ((8 - m : Nat) : Int) H := by
  intro m
  induction m with
  | zero =>
    intro k x hm hk h
    obtain ⟨k, rfl⟩ : ∃ j, k = j + 1 := ⟨k - 1, by omega⟩
    exact br_f (by omega) ⟨H, .refl H, h⟩
  | succ m ih =>
    intro k x hm hk h
    obtain ⟨k, rfl⟩ : ∃ j, k = j + 1 := ⟨k - 1, by omega⟩
    have e : w64 (((8 - (m + 1) : Nat) : Int) + 1) = ((8 - m : Nat) : Int) := by rw [w64_id (by omega)]; omega
    have ha := (ibits_u32 x 1#32).1
    have h1 : ((1#32 : BitVec 32).toNat : Int) = 1 := rfl
    rw [h1] at ha
    have hx := (ibits_u32 (x >>> 1) polyB).2
    have hp : ((polyB).toNat : Int) = 2197175160 := rfl
    rw [hp] at hx
    refine br_t (by omega) ⟨fun c => ?_, fun c => ?_⟩
    · rw [ha] at c
      show frame_step.l1 F K k (ibits .xor .u32 (ishr .u32 (x.toNat : Int) 1) 2197175160) (w64 (((8 - (m + 1) : Nat) : Int) + 1)) H
      rw [shr1, hx, e]
      refine ih k _ (by omega) (by omega) ?_
      have : bitB x = (x >>> 1) ^^^ polyB := if_pos (by omega)
      rw [← this]; exact h
    · rw [ha] at c
      show frame_step.l1 F K k (ishr .u32 (x.toNat : Int) 1) (w64 (((8 - (m + 1) : Nat) : Int) + 1)) H
      rw [shr1, e]
      refine ih k _ (by omega) (by omega) ?_
      have : bitB x = x >>> 1 := if_neg (by omega)
      rw [← this]; exact h
theorem step_spec {F : Nat} (hF : 10 ≤ F) {x : BitVec 32} {c : UInt8} {H : SH} {K : Int → SH → Prop} (h : K ((stepB x c).toNat : Int) H) : frame_step.wp F (x.toNat : Int) (c.toNat : Int) H K := by
  have hc := c.toNat_lt
  have hw : IntKind.u32.wrap (c.toNat : Int) = ((BitVec.ofNat 32 c.toNat).toNat : Int) := by
    rw [u32_id (by omega), BitVec.toNat_ofNat, Nat.mod_eq_of_lt (by omega)]
  unfold frame_step.wp
  rw [hw, (ibits_u32 _ _).2]
  exact step_loop H 8 F _ (by omega) (by omega) h

theorem crcB_take {x : BitVec 32} {l : List UInt8} {i : Nat} (h : i < l.length) : crcB x (l.take (i + 1)) = stepB (crcB x (l.take i)) l[i] := by
  unfold crcB
  rw [List.take_succ_eq_append_getElem h, List.foldl_append]; rfl
theorem pow4 : (256 : Nat) ^ 4 = 4294967296 := by decide
theorem crcB_append (x : BitVec 32) (a b : List UInt8) : crcB x (a ++ b) = crcB (crcB x a) b := by simp [crcB]
theorem Sum_in {F : Nat} (hF : 10 ≤ F) {K : Int → SH → Prop} {R1 : Int → Sl → Int → Int → SH → Prop} {x0 : BitVec 32} {s : ByteArray} {l : Sl} {x16 x17 : Int} (H : SH) (hs : s.size ≤ 4611686018427387904)
    (h : R1 ((crcB x0 (bs s)).toNat : Int) l x16 (w64 (x17 + 1)) H) : ∀ (m i k : Nat), s.size - i = m → i ≤ s.size → m < k → frame_Sum.l2 F K R1 k ((crcB x0 ((bs s).take i)).toNat : Int) s l x16 x17 (s.size : Int) (i : Int) H := by
  intro m
  induction m with
  | zero =>
    intro i k hm hi hk
    obtain ⟨k, rfl⟩ : ∃ j, k = j + 1 := ⟨k - 1, by omega⟩
    refine br_f (by omega) ?_
    rw [List.take_of_length_le (by rw [bs_len]; omega)]; exact h
  | succ m ih =>
    intro i k hm hi hk
    obtain ⟨k, rfl⟩ : ∃ j, k = j + 1 := ⟨k - 1, by omega⟩
    have hlt : i < (bs s).length := by rw [bs_len]; omega
    refine br_t (by omega) ⟨by omega, by omega, ?_⟩
    rw [bt_eq hlt]
    refine step_spec hF ?_
    rw [← crcB_take hlt, w64_id (by omega), show (i : Int) + 1 = ((i + 1 : Nat) : Int) by omega]
    exact ih (i + 1) k (by omega) (by omega) (by omega)
theorem Sum_loop {F : Nat} (hF : 10 ≤ F) {K : Int → SH → Prop} {l : Sl} {ss : List ByteArray} (H : SH) (hl : l.len = ss.length) (hr : H.row l.a (ss.map fun s => .string s)) (hs : ∀ s ∈ ss, s.size < F ∧ s.size ≤ 4611686018427387904) (hm : ss.length ≤ 4611686018427387904)
    (h : K (sumV (ss.flatMap bs) : Int) H) : ∀ (m i k : Nat), ss.length - i = m → i ≤ ss.length → m < k →
    frame_Sum.l1 F K k ((crcB 4294967295#32 ((ss.take i).flatMap bs)).toNat : Int) l (l.len : Int) (i : Int) H := by
  intro m
  induction m with
  | zero =>
    intro i k hm hi hk
    obtain ⟨k, rfl⟩ : ∃ j, k = j + 1 := ⟨k - 1, by omega⟩
    refine br_f (by omega) ⟨H, .refl H, ?_⟩
    rw [List.take_of_length_le (by omega)]
    have hx := (ibits_u32 4294967295#32 (crcB 4294967295#32 (ss.flatMap bs))).2
    have h1 : ((4294967295#32 : BitVec 32).toNat : Int) = 4294967295 := rfl
    rw [h1] at hx
    rw [hx]
    have := sumV_lt (ss.flatMap bs)
    unfold sumV at this h
    rw [w64_id (by omega)]; exact h
  | succ m ih =>
    intro i k hm hi hk
    obtain ⟨k, rfl⟩ : ∃ j, k = j + 1 := ⟨k - 1, by omega⟩
    have hlt : i < ss.length := by omega
    refine br_t (by omega) (row_at hr (v := .string ss[i]) (by simp [hlt]) (by omega) fun p hp hh => ⟨ss[i], hh, ?_⟩)
    have hsi := hs ss[i] (List.getElem_mem hlt)
    have := Sum_in (F := F) hF (K := K) (R1 := frame_Sum.l1 F K k) (x0 := crcB 4294967295#32 ((ss.take i).flatMap bs)) (s := ss[i]) (l := l) (x16 := l.len) (x17 := i) H hsi.2 ?_ (ss[i]).size 0 F (by omega) (by omega) hsi.1
    · simpa [crcB] using this
    · rw [w64_id (by omega), show (i : Int) + 1 = ((i + 1 : Nat) : Int) by omega]
      have e : crcB (crcB 4294967295#32 ((ss.take i).flatMap bs)) (bs ss[i]) = crcB 4294967295#32 ((ss.take (i + 1)).flatMap bs) := by
        rw [List.take_succ_eq_append_getElem hlt, List.flatMap_append, crcB_append]; simp
      rw [e]
      exact ih (i + 1) k (by omega) (by omega) (by omega)
theorem Sum_spec {F : Nat} (hF : 10 ≤ F) {l : Sl} {ss : List ByteArray} {H : SH} (hl : l.len = ss.length) (hr : H.row l.a (ss.map fun s => .string s)) (hs : ∀ s ∈ ss, s.size < F ∧ s.size ≤ 4611686018427387904) (hm : ss.length < F) (hm2 : ss.length ≤ 4611686018427387904)
    {K : Int → SH → Prop} (h : K (sumV (ss.flatMap bs) : Int) H) : frame_Sum.wp F l H K :=
  Sum_loop hF H hl hr hs hm2 h ss.length 0 F (by omega) (by omega) hm
/-- The sum of one text, in a new block. -/
theorem Sum_one {F : Nat} (hF : 10 ≤ F) {s : ByteArray} {b : Nat} {H : SH} (hs : s.size < F) (hs2 : s.size ≤ 4611686018427387904) {K : Int → SH → Prop} (h : K (sumV (bs s) : Int) (H.upd b ⟨[.string s], 9, false, 1⟩)) :
    frame_Sum.wp F ⟨some (b, 0), 1, 1⟩ (H.upd b ⟨[.string s], 9, false, 1⟩) K :=
  Sum_spec hF (ss := [s]) rfl (row_upd rfl) (by simp; exact ⟨hs, hs2⟩) (by simp; omega) (by simp) (by simpa using h)

/-! ### frames -/
/-- A text's frame. -/
def sealL (t : List UInt8) : List UInt8 := fixL 4 (sumV (fixL 2 t.length ++ t)) ++ fixL 2 t.length ++ t
theorem sealL_len (t : List UInt8) : (sealL t).length = t.length + 6 := by simp [sealL, fixL_len]; omega
theorem Seal_long {F : Nat} {s : ByteArray} (h : s.size > 60000) {H : SH} {K : ByteArray → Option EV → SH → Prop} (hk : K ByteArray.empty (some (.no 6)) H) : frame_Seal.wp F s H K := br_t (by omega) ⟨H, .refl H, hk⟩
theorem Seal_spec {F : Nat} (hF : 10 ≤ F) {s : ByteArray} (hs : s.size ≤ 60000) (hsF : s.size < F) {H : SH} {K : ByteArray → Option EV → SH → Prop} (hk : K (ofL (sealL (bs s))) none H) : frame_Seal.wp F s H K := by
  refine br_f (by omega) (PutFixed_spec (n := 2) (x := s.size) hF (by omega) (by omega) (by omega) ?_)
  intro b hb
  have hlen := fixL_len 2 s.size
  refine Sum_spec hF (ss := [ofL (fixL 2 s.size), s]) rfl (row_upd rfl) ?_ (by simp; omega) (by simp) ?_
  · intro x hx
    simp at hx
    rcases hx with rfl | rfl
    · rw [ofL_size, hlen]; omega
    · omega
  · have hsum := sumV_lt ([ofL (fixL 2 s.size), s].flatMap bs)
    refine PutFixed_spec (n := 4) hF (by omega) (by omega) (by rw [pow4]; exact hsum) ?_
    have h4 := fixL_len 4 (sumV ([ofL (fixL 2 s.size), s].flatMap bs))
    refine ⟨by rw [ofL_size, ofL_size, h4, hlen]; omega, by rw [ofL_append, ofL_size, List.length_append, h4, hlen]; omega, H, le_upd hb, ?_⟩
    have e : (ofL (fixL 4 (sumV ([ofL (fixL 2 s.size), s].flatMap bs))) ++ ofL (fixL 2 s.size)) ++ s = ofL (sealL (bs s)) := by
      apply bs_inj
      rw [bs_append, bs_append, bs_ofL, bs_ofL, bs_ofL]
      unfold sealL
      rw [bs_len]
      simp [bs_ofL]
    rw [e]; exact hk

/-- Reading the frame at the start of bytes. -/
inductive Nx where
  | ok (n : Nat)
  | no (c : Int)
def nextL (l : List UInt8) : Nx :=
  if l.length < 6 then .no 3
  else if fixV ((l.drop 4).take 2) > 60000 then .no 6
  else if fixV ((l.drop 4).take 2) > l.length - 6 then .no 3
  else if sumV ((l.drop 4).take (2 + fixV ((l.drop 4).take 2))) ≠ fixV (l.take 4) then .no 5
  else .ok (fixV ((l.drop 4).take 2))
def NxK (K : ByteArray → Int → Option EV → SH → Prop) (s : ByteArray) (p : Nat) (H : SH) : Nx → Prop
  | .ok n => K (s.extract (p + 6) (p + 6 + n)) ((p + 6 + n : Nat) : Int) none H
  | .no c => K ByteArray.empty p (some (EV.mk p (some (.no c)))) H
theorem Next1_spec {F : Nat} {e : Option EV} {b : Nat} {x : Int} {H H' : SH} {K : ByteArray → Int → Option EV → SH → Prop} (hb : H'.has (b, 0) (.int .i64 x)) (hle : SH.le H H') (h : K ByteArray.empty x (some (EV.mk x e)) H) :
    frame_Next_1.wp F e (some (b, 0)) H' (fun s x e H'' => ∃ Hr, SH.le Hr H'' ∧ K s x e Hr) :=
  p_some ⟨x, hb, x, hb, H', .refl _, H, hle, h⟩
theorem Next_bad {F : Nat} {s : ByteArray} {p : Int} (hp : p < 0 ∨ p > s.size) {H : SH} {K : ByteArray → Int → Option EV → SH → Prop} (h : K ByteArray.empty p (some (EV.mk p (some (.no 1)))) H) : frame_Next.wp F s p H K := by
  intro b hb
  have hh : (SH.upd H b ⟨[.int .i64 p], 3, false, 1⟩).has (b, 0) (.int .i64 p) := has_upd rfl
  exact ⟨p, hh, fun _ => Next1_spec hh (le_upd hb) h, fun c => ⟨p, hh, fun _ => Next1_spec hh (le_upd hb) h, fun c2 => absurd hp (by omega)⟩⟩
theorem Next_spec {F : Nat} (hF : 10 ≤ F) {s : ByteArray} (hs : s.size ≤ 4611686018427387904) (hsF : s.size < F) {p : Nat} (hp : p ≤ s.size) {H : SH} {K : ByteArray → Int → Option EV → SH → Prop} (h : NxK K s p H (nextL ((bs s).drop p))) :
    frame_Next.wp F s p H K := by
  intro b hb
  have hh : (SH.upd H b ⟨[.int .i64 (p : Int)], 3, false, 1⟩).has (b, 0) (.int .i64 p) := has_upd rfl
  have hle := le_upd (o := (⟨[.int .i64 (p : Int)], 3, false, 1⟩ : AO)) hb
  have hl : ((bs s).drop p).length = s.size - p := by rw [List.length_drop, bs_len]
  unfold nextL at h
  rw [hl] at h
  refine ⟨p, hh, br_f (by omega) ⟨p, hh, br_f (by omega) ⟨p, hh, ?_⟩⟩⟩
  rw [w64_id (by omega)]
  by_cases h6 : s.size - p < 6
  · rw [if_pos h6] at h
    exact br_t (by omega) (Next1_spec hh hle h)
  rw [if_neg h6] at h
  refine br_f (by omega) ⟨p, hh, Fixed_spec (n := 4) hF hs hp (by omega) (by omega) ?_⟩
  unfold RdF; rw [if_pos (by omega)]
  refine Fixed_spec (n := 2) hF hs (p := p + 4) (by omega) (by omega) (by omega) ?_
  unfold RdF; rw [if_pos (by omega)]
  have e4 : (((bs s).drop p).drop 4).take 2 = ((bs s).drop (p + 4)).take 2 := by rw [List.drop_drop]
  rw [e4] at h
  have hn : fixV (((bs s).drop (p + 4)).take 2) < 65536 := by
    have h1 := fixV_lt (((bs s).drop (p + 4)).take 2)
    have h2 : (((bs s).drop (p + 4)).take 2).length ≤ 2 := by rw [List.length_take]; omega
    have h3 : 256 ^ (((bs s).drop (p + 4)).take 2).length ≤ 256 ^ 2 := Nat.pow_le_pow_right (by omega) h2
    have h4 : (256 : Nat) ^ 2 = 65536 := by decide
    omega
  generalize fixV (((bs s).drop (p + 4)).take 2) = n at h hn
  by_cases hL : n > 60000
  · rw [if_pos hL] at h
    exact br_t (by omega) (Next1_spec hh hle h)
  rw [if_neg hL] at h
  refine br_f (by omega) ?_
  rw [w64_id (by omega)]
  by_cases hN : n > s.size - p - 6
  · rw [if_pos hN] at h
    exact br_t (by omega) (Next1_spec hh hle h)
  rw [if_neg hN] at h
  refine br_f (by omega) ?_
  rw [w64_id (by omega), show ((p + 4 + 2 : Nat) : Int) + (n : Int) = ((p + 6 + n : Nat) : Int) by omega]
  refine ⟨by omega, by omega, by omega, fun b2 hb2 => ?_⟩
  have hle2 := hle.trans (le_upd (o := (⟨[.string (s.extract ((p + 4 : Nat) : Int).toNat ((p + 6 + n : Nat) : Int).toNat)], 9, false, 1⟩ : AO)) hb2)
  have hne : b ≠ b2 := by rintro rfl; rw [SH.upd_same] at hb2; cases hb2
  have hsz : (s.extract ((p + 4 : Nat) : Int).toNat ((p + 6 + n : Nat) : Int).toNat).size ≤ s.size := by
    rw [← bs_len, bs_extract, List.length_drop, List.length_take, bs_len]; omega
  refine Sum_one hF (by omega) (by omega) ?_
  have ebs : bs (s.extract ((p + 4 : Nat) : Int).toNat ((p + 6 + n : Nat) : Int).toNat) = (((bs s).drop p).drop 4).take (2 + n) := by
    rw [bs_extract, List.drop_drop, List.drop_take]
    congr 1
    omega
  rw [ebs]
  by_cases hS : sumV ((((bs s).drop p).drop 4).take (2 + n)) ≠ fixV (((bs s).drop p).take 4)
  · rw [if_pos hS] at h
    refine br_t (by omega) (Next1_spec (hh.le (le_upd hb2)) hle2 h)
  · rw [if_neg hS] at h
    refine br_f (by omega) ⟨by omega, by omega, by omega, H, hle2, ?_⟩
    exact h
/-- What is sealed is read. -/
theorem nextL_seal {t : List UInt8} (ht : t.length ≤ 60000) (rest : List UInt8) : nextL (sealL t ++ rest) = .ok t.length := by
  have h4 : ∀ x, (fixL 4 x).length = 4 := fixL_len 4
  have h2 : ∀ x, (fixL 2 x).length = 2 := fixL_len 2
  have e4 : (sealL t ++ rest).drop 4 = fixL 2 t.length ++ t ++ rest := by
    unfold sealL
    rw [List.append_assoc, List.append_assoc, List.drop_append, h4, List.drop_eq_nil_of_le (by rw [h4]; omega)]
    simp
  have e2 : ((sealL t ++ rest).drop 4).take 2 = fixL 2 t.length := by
    rw [e4, List.append_assoc, List.take_append, h2, List.take_of_length_le (by rw [h2]; omega)]; simp
  have hv : fixV (fixL 2 t.length) = t.length := fixV_fixL 2 _ (by omega)
  have hl : (sealL t ++ rest).length = t.length + 6 + rest.length := by rw [List.length_append, sealL_len]
  have e6 : ((sealL t ++ rest).drop 4).take (2 + t.length) = fixL 2 t.length ++ t := by
    rw [e4, List.take_append_of_le_length (by rw [List.length_append, h2]; omega), List.take_of_length_le (by rw [List.length_append, h2]; omega)]
  have e0 : (sealL t ++ rest).take 4 = fixL 4 (sumV (fixL 2 t.length ++ t)) := by
    unfold sealL
    rw [List.append_assoc, List.append_assoc, List.take_append_of_le_length (by rw [h4]; omega), List.take_of_length_le (by rw [h4]; omega)]
  unfold nextL
  rw [e2, hv, hl, e6, e0, fixV_fixL 4 _ (by rw [pow4]; exact sumV_lt _)]
  rw [if_neg (by omega), if_neg (by omega), if_neg (by omega), if_neg (by simp)]
/-- What is read was sealed. -/
theorem nextL_ok {l : List UInt8} {n : Nat} (h : nextL l = .ok n) : n + 6 ≤ l.length ∧ n ≤ 60000 ∧ sealL ((l.drop 6).take n) = l.take (n + 6) := by
  unfold nextL at h
  by_cases h6 : l.length < 6
  · rw [if_pos h6] at h; cases h
  rw [if_neg h6] at h
  by_cases hL : fixV ((l.drop 4).take 2) > 60000
  · rw [if_pos hL] at h; cases h
  rw [if_neg hL] at h
  by_cases hN : fixV ((l.drop 4).take 2) > l.length - 6
  · rw [if_pos hN] at h; cases h
  rw [if_neg hN] at h
  by_cases hS : sumV ((l.drop 4).take (2 + fixV ((l.drop 4).take 2))) ≠ fixV (l.take 4)
  · rw [if_pos hS] at h; cases h
  rw [if_neg hS] at h
  injection h with h
  rw [h] at hL hN hS
  have hlt : ((l.drop 6).take n).length = n := by rw [List.length_take, List.length_drop]; omega
  have hl2 : ((l.drop 4).take 2).length = 2 := by rw [List.length_take, List.length_drop]; omega
  have hl4 : (l.take 4).length = 4 := by rw [List.length_take]; omega
  refine ⟨by omega, by omega, ?_⟩
  have e2 : fixL 2 n = (l.drop 4).take 2 := by
    have := fixL_fixV ((l.drop 4).take 2)
    rwa [hl2, h] at this
  have e26 : (l.drop 4).take 2 ++ (l.drop 6).take n = (l.drop 4).take (2 + n) := by
    rw [List.take_add, List.drop_drop]
  unfold sealL
  rw [hlt, List.append_assoc, e2, e26]
  have hS' : sumV ((l.drop 4).take (2 + n)) = fixV (l.take 4) := Decidable.not_not.1 hS
  rw [hS']
  have := fixL_fixV (l.take 4)
  rw [hl4] at this
  rw [this, show n + 6 = 4 + (2 + n) by omega]
  conv => rhs; rw [List.take_add]

/-! ### Open -/
end Go.Proofs.YtknhlipealekoaaDoor.K
