/- Plain lemmas: numbers of 64 bits, bits, owned slices. -/
import Derived.Test.YtpnbehgkbfhacaaErr
import Derived.IntWalk
set_option linter.unusedVariables false
set_option linter.unusedSimpArgs false
namespace Go.Proofs.Ytpnbehgkbfhacaa.K
open Go

/-! ### numbers -/
theorem w64_id {x : Int} (h : -9223372036854775808 ≤ x ∧ x ≤ 9223372036854775807) : w64 x = x := IntWalk.i64_in x h
theorem u8_mod (x : Int) : IntKind.u8.wrap x = x % 256 := by rw [IntKind.wrap_u8]
theorem u8_id {x : Int} (h : 0 ≤ x ∧ x ≤ 255) : IntKind.u8.wrap x = x := IntWalk.u8_in x h
theorem bt_range (s : ByteArray) (i : Int) : 0 ≤ bt s i ∧ bt s i ≤ 255 := by
  unfold bt; split
  · rename_i h; have := (s[i.toNat]'h).toNat_lt; omega
  · omega
theorem ofInt_toNat (n : Nat) (x : Int) (h0 : 0 ≤ x) (h1 : x < 2 ^ n) : (BitVec.ofInt n x).toNat = x.toNat := by
  rw [BitVec.toNat_ofInt]
  congr 1
  exact Int.emod_eq_of_lt h0 (by exact_mod_cast h1)
theorem ibits_and {x y : Int} (hx : 0 ≤ x) (hy : 0 ≤ y) (hx1 : x ≤ 9223372036854775807) (hy1 : y ≤ 9223372036854775807) : ibits .and .i64 x y = ((x.toNat &&& y.toNat : Nat) : Int) := by
  show IntKind.i64.wrap ((BitVec.ofInt 64 x &&& BitVec.ofInt 64 y).toNat : Int) = _
  rw [BitVec.toNat_and, ofInt_toNat 64 x hx (by omega), ofInt_toNat 64 y hy (by omega)]
  have := Nat.and_le_left (n := x.toNat) (m := y.toNat)
  exact IntWalk.i64_in _ (by omega)
theorem or_lt {n x y : Nat} (hx : x < 2 ^ n) (hy : y < 2 ^ n) : x ||| y < 2 ^ n := Nat.or_lt_two_pow hx hy
theorem ibits_or {x y : Int} (hx : 0 ≤ x) (hy : 0 ≤ y) (hx1 : x ≤ 9223372036854775807) (hy1 : y ≤ 9223372036854775807) : ibits .or .i64 x y = ((x.toNat ||| y.toNat : Nat) : Int) := by
  show IntKind.i64.wrap ((BitVec.ofInt 64 x ||| BitVec.ofInt 64 y).toNat : Int) = _
  rw [BitVec.toNat_or, ofInt_toNat 64 x hx (by omega), ofInt_toNat 64 y hy (by omega)]
  have := or_lt (n := 63) (x := x.toNat) (y := y.toNat) (by omega) (by omega)
  exact IntWalk.i64_in _ (by omega)
theorem ibits_xor {x y : Int} (hx : 0 ≤ x) (hy : 0 ≤ y) (hx1 : x ≤ 9223372036854775807) (hy1 : y ≤ 9223372036854775807) : ibits .xor .i64 x y = ((x.toNat ^^^ y.toNat : Nat) : Int) := by
  show IntKind.i64.wrap ((BitVec.ofInt 64 x ^^^ BitVec.ofInt 64 y).toNat : Int) = _
  rw [BitVec.toNat_xor, ofInt_toNat 64 x hx (by omega), ofInt_toNat 64 y hy (by omega)]
  have := Nat.xor_lt_two_pow (n := 63) (x := x.toNat) (y := y.toNat) (by omega) (by omega)
  exact IntWalk.i64_in _ (by omega)
theorem ibits_and8 {x y : Int} (hx : 0 ≤ x) (hy : 0 ≤ y) (hx1 : x ≤ 255) (hy1 : y ≤ 255) : ibits .and .u8 x y = ((x.toNat &&& y.toNat : Nat) : Int) := by
  show IntKind.u8.wrap ((BitVec.ofInt 8 x &&& BitVec.ofInt 8 y).toNat : Int) = _
  rw [BitVec.toNat_and, ofInt_toNat 8 x hx (by omega), ofInt_toNat 8 y hy (by omega)]
  have := Nat.and_le_left (n := x.toNat) (m := y.toNat)
  exact IntWalk.u8_in _ (by omega)
theorem ibits_xor8 {x y : Int} (hx : 0 ≤ x) (hy : 0 ≤ y) (hx1 : x ≤ 255) (hy1 : y ≤ 255) : ibits .xor .u8 x y = ((x.toNat ^^^ y.toNat : Nat) : Int) := by
  show IntKind.u8.wrap ((BitVec.ofInt 8 x ^^^ BitVec.ofInt 8 y).toNat : Int) = _
  rw [BitVec.toNat_xor, ofInt_toNat 8 x hx (by omega), ofInt_toNat 8 y hy (by omega)]
  have := Nat.xor_lt_two_pow (n := 8) (x := x.toNat) (y := y.toNat) (by omega) (by omega)
  exact IntWalk.u8_in _ (by omega)
theorem and127 (x : Nat) : x &&& 127 = x % 128 := Nat.and_two_pow_sub_one_eq_mod x 7
theorem or128 {x : Nat} (h : x < 128) : x ||| 128 = x + 128 := by
  have := Nat.shiftLeft_add_eq_or_of_lt (b := x) (i := 7) h 1
  rw [Nat.or_comm]; simp at this; omega
theorem or_shift {a c k : Nat} (h : a < 2 ^ k) : a ||| (c * 2 ^ k) = a + c * 2 ^ k := by
  have := Nat.shiftLeft_add_eq_or_of_lt (b := a) (i := k) h c
  rw [Nat.shiftLeft_eq] at this
  rw [Nat.or_comm]; omega
theorem ishl_eq {x : Int} {k : Nat} (hk : k ≤ 64) : ishl .i64 x (k : Int) = w64 (x * 2 ^ k) := by
  have : min ((k : Int).toNat) IntKind.i64.bits = k := by simp [IntKind.bits]; omega
  unfold ishl; rw [this]
theorem ishr_eq {x : Int} {k : Nat} (hk : k ≤ 64) (hx : 0 ≤ x) : ishr .i64 x (k : Int) = x / 2 ^ k := by
  have : min ((k : Int).toNat) IntKind.i64.bits = k := by simp [IntKind.bits]; omega
  unfold ishr; rw [this, Int.fdiv_eq_ediv_of_nonneg _ (by exact Int.pow_nonneg (by omega))]

/-! ### byte strings -/
def bs (s : ByteArray) : List UInt8 := s.data.toList
def ofL (l : List UInt8) : ByteArray := ⟨l.toArray⟩
theorem bs_len (s : ByteArray) : (bs s).length = s.size := Array.length_toList
theorem ofL_size (l : List UInt8) : (ofL l).size = l.length := by show l.toArray.size = _; simp
theorem bs_ofL (l : List UInt8) : bs (ofL l) = l := by simp [bs, ofL]
theorem ofL_bs (s : ByteArray) : ofL (bs s) = s := by cases s; simp [bs, ofL]
theorem bs_inj {s t : ByteArray} (h : bs s = bs t) : s = t := by rw [← ofL_bs s, ← ofL_bs t, h]
theorem bs_append (s t : ByteArray) : bs (s ++ t) = bs s ++ bs t := by
  simp [bs, ByteArray.data_append]
theorem bs_extract (s : ByteArray) (a b : Nat) : bs (s.extract a b) = ((bs s).take b).drop a := by
  simp [bs, ByteArray.data_extract, List.extract_eq_take_drop, List.drop_take]
theorem bs_empty : bs ByteArray.empty = [] := rfl
theorem bt_eq {s : ByteArray} {i : Nat} (h : i < (bs s).length) : bt s (i : Int) = (((bs s)[i]).toNat : Int) := by
  have h' : i < s.size := by rwa [bs_len] at h
  simp only [bt, Int.toNat_natCast, h', dite_true]
  rfl

/-! ### slices that a call makes for itself -/
/-- The slice l has the cells cs (m elements), in a block that lies beside H0. -/
structure Own (H0 H : SH) (E : TypeId) (size : Nat) (l : Sl) (cs : List Value) : Prop where
  le : SH.le H0 H
  len : cs.length = l.len * size
  at_ : (l.a = none ∧ l.len = 0 ∧ l.cap = 0) ∨ ∃ b pre, l.a = some (b, pre.length) ∧ H0 b = none ∧ l.len ≤ l.cap ∧ ∃ sz, H b = some ⟨pre ++ cs, E, false, sz⟩ ∧ pre.length + l.cap * size ≤ sz
theorem Own.nil (H : SH) (E : TypeId) (size : Nat) : Own H H E size Sl.nil [] := ⟨.refl H, by simp [Sl.nil], .inl ⟨rfl, rfl, rfl⟩⟩
theorem Own.row {H0 H : SH} {E : TypeId} {size : Nat} {l : Sl} {cs : List Value} (h : Own H0 H E size l cs) : H.row l.a cs := by
  rcases h.at_ with ⟨_, h0, _⟩ | ⟨b, pre, ha, _, _, sz, hb, _⟩
  · left; have := h.len; rw [h0] at this; simpa using this
  · right; exact ⟨(b, pre.length), _, ha, hb, fun j u hu => by simp [List.getElem?_append_right, hu]⟩
theorem SH.le.upd {H0 H : SH} (h : SH.le H0 H) {b : Nat} (hb : H0 b = none) (o : AO) : SH.le H0 (H.upd b o) := fun c oc hc => by
  rw [SH.upd_ne _ _ (by rintro rfl; rw [hb] at hc; cases hc)]; exact h c oc hc
theorem SH.le.none {H0 H : SH} (h : SH.le H0 H) {b : Nat} (hb : H b = none) : H0 b = none := by
  cases h0 : H0 b with
  | none => rfl
  | some o => rw [h b o h0] at hb; cases hb
theorem wrl_end (cs vs : List Value) : wrl cs cs.length vs = cs ++ vs := by simp [wrl]
theorem Own.append {H0 H : SH} {E : TypeId} {size bytes : Nat} {l : Sl} {cs news : List Value} {m : Nat} {K : Sl → SH → Prop} (h : Own H0 H E size l cs) (hb : (l.len + m) * bytes ≤ 140737488355328) (h63 : l.len + m ≤ 9223372036854775807) (hn : news.length = m * size)
    (h1 : ∀ u ∈ news, u.oneCell' = true) (hk : ∀ l' H', Own H0 H' E size l' (cs ++ news) → l'.len = l.len + m → K l' H') : AppendQ H E size bytes l m news K := by
  have hlen : (cs ++ news).length = (l.len + m) * size := by rw [List.length_append, h.len, hn, Nat.add_mul]
  refine ⟨hb, h63, hn, h1, fun hc => ⟨fun ha => ?_, fun p hp => ?_⟩, fun hc => ⟨cs, h.len, h.row, fun b cap hbn hcap => ?_⟩⟩
  · rcases h.at_ with ⟨_, h0, h2⟩ | ⟨b, pre, ha', _⟩
    · refine hk _ _ ⟨h.le, hlen, .inl ⟨rfl, ?_, h2⟩⟩ rfl
      show l.len + m = 0
      omega
    · rw [ha'] at ha; cases ha
  · rcases h.at_ with ⟨ha, _⟩ | ⟨b, pre, ha, hb0, hlc, sz, hH, hsz⟩
    · rw [ha] at hp; cases hp
    · rw [ha] at hp; cases hp
      have hcl : (l.len + m) * size ≤ l.cap * size := Nat.mul_le_mul_right _ hc
      refine ⟨_, hH, rfl, by simp [h.len], by simp; omega, hk _ _ ⟨h.le.upd hb0 _, hlen, .inr ⟨b, pre, rfl, hb0, hc, sz, ?_, hsz⟩⟩ rfl⟩
      rw [SH.upd_same]
      have : pre.length + l.len * size = (pre ++ cs).length := by rw [List.length_append, h.len]
      simp only [this, wrl_end, List.append_assoc]
  · exact hk _ _ ⟨h.le.upd (h.le.none hbn) _, hlen, .inr ⟨b, [], rfl, h.le.none hbn, hcap, _, SH.upd_same _ _ _, by simp⟩⟩ rfl
end Go.Proofs.Ytpnbehgkbfhacaa.K
