/- More plain lemmas: reading and writing owned blocks; cells told by a function; numbers of 32 bits. -/
import Derived.Test.YtpnbehgkbfhacaaLib
set_option linter.unusedVariables false
set_option linter.unusedSimpArgs false
namespace Go.Proofs.Ytpnbehgkbfhacaa.K
open Go

theorem SH.row.get {H : SH} {a : Option (Nat × Nat)} {cs : List Value} (h : H.row a cs) {j : Nat} {v : Value} (hv : cs[j]? = some v) : ∃ p, a = some p ∧ H.has (p.1, p.2 + j) v := by
  rcases h with rfl | ⟨p, o, ha, hb, hc⟩
  · simp at hv
  · exact ⟨p, ha, o, hb, hc j v hv⟩
/-- What an index into a slice asks. -/
theorem row_at {H : SH} {l : Sl} {cs : List Value} {i : Nat} {v : Value} {R : Nat × Nat → Prop} (hr : H.row l.a cs) (hv : cs[i]? = some v) (hl : i < l.len) (h : ∀ p, l.a = some p → H.has (p.1, p.2 + (i : Int).toNat * 1) v → R p) :
    ∃ p, l.a = some p ∧ 0 ≤ (i : Int) ∧ (i : Int) < (l.len : Int) ∧ R p := by
  obtain ⟨p, ha, hh⟩ := hr.get hv
  exact ⟨p, ha, by omega, by omega, h p ha (by simpa using hh)⟩
theorem has_inj {H : SH} {p : Nat × Nat} {u v : Value} (h : H.has p u) (k : H.has p v) : u = v := by
  obtain ⟨o, h1, h2⟩ := h
  obtain ⟨o', k1, k2⟩ := k
  rw [h1] at k1; cases k1
  rw [h2] at k2; cases k2; rfl
theorem SH.has.le {H H' : SH} {p : Nat × Nat} {v : Value} (h : H.has p v) (hle : SH.le H H') : H'.has p v := by
  obtain ⟨o, h1, h2⟩ := h; exact ⟨o, hle _ _ h1, h2⟩
theorem SH.row.le {H H' : SH} {a : Option (Nat × Nat)} {cs : List Value} (h : H.row a cs) (hle : SH.le H H') : H'.row a cs := by
  rcases h with h | ⟨p, o, ha, hb, hc⟩
  · exact .inl h
  · exact .inr ⟨p, o, ha, hle _ _ hb, hc⟩
theorem le_upd {H : SH} {b : Nat} {o : AO} (h : H b = none) : SH.le H (H.upd b o) := (SH.le.refl H).upd h o
theorem row_upd {H : SH} {b : Nat} {o : AO} {cs : List Value} (h : o.cells = cs) : (H.upd b o).row (some (b, 0)) cs :=
  .inr ⟨(b, 0), o, rfl, SH.upd_same _ _ _, fun j u hu => by rw [h]; simpa using hu⟩
theorem has_upd {H : SH} {b k : Nat} {o : AO} {v : Value} (h : o.cells[k]? = some v) : (H.upd b o).has (b, k) v := ⟨o, SH.upd_same _ _ _, h⟩
theorem setl_upd {H : SH} {b k : Nat} {o : AO} {vs : List Value} : SH.setl (H.upd b o) (b, k) vs = H.upd b { o with cells := wrl o.cells k vs } := by
  unfold SH.setl; simp only [SH.upd_same, SH.upd_upd]
theorem wrs_upd {H : SH} {b k n : Nat} {o : AO} (h : o.ro = false) (hk : k + n ≤ o.cells.length) : SH.wrs (H.upd b o) (b, k) n := ⟨o, SH.upd_same _ _ _, h, hk⟩
theorem upd_comm {H : SH} {a b : Nat} {o o' : AO} (h : a ≠ b) : (H.upd a o).upd b o' = (H.upd b o').upd a o := by
  funext c; unfold SH.upd
  cases h1 : Nat.beq c a with
  | false => rfl
  | true =>
    obtain rfl := Nat.eq_of_beq_eq_true h1
    cases h2 : Nat.beq c b with
    | false => rfl
    | true => exact absurd (Nat.eq_of_beq_eq_true h2) h
theorem has_upd_ne {H : SH} {b c k : Nat} {o : AO} {v : Value} (h : b ≠ c) (hh : H.has (b, k) v) : (H.upd c o).has (b, k) v := by
  obtain ⟨x, h1, h2⟩ := hh; exact ⟨x, by rw [SH.upd_ne _ _ h]; exact h1, h2⟩
theorem wrs_upd_ne {H : SH} {b c k n : Nat} {o : AO} (h : b ≠ c) (hh : H.wrs (b, k) n) : (H.upd c o).wrs (b, k) n := by
  obtain ⟨x, h1, h2⟩ := hh; exact ⟨x, by rw [SH.upd_ne _ _ h]; exact h1, h2⟩
theorem setl_upd_ne {H : SH} {b c k : Nat} {o : AO} {vs : List Value} (h : b ≠ c) : SH.setl (H.upd c o) (b, k) vs = (SH.setl H (b, k) vs).upd c o := by
  unfold SH.setl
  simp only [SH.upd_ne _ _ h]
  cases H b with
  | none => rfl
  | some x => exact upd_comm (Ne.symm h)
theorem row_upd_ne {H : SH} {b c k : Nat} {o : AO} {cs : List Value} (h : b ≠ c) (hh : H.row (some (b, k)) cs) : (H.upd c o).row (some (b, k)) cs := by
  rcases hh with hh | ⟨p, x, ha, hb, hc⟩
  · exact .inl hh
  · cases ha; exact .inr ⟨_, x, rfl, by rw [SH.upd_ne _ _ h]; exact hb, hc⟩
/-- Cells told by a function. -/
def cellsF (n : Nat) (f : Nat → Value) : List Value := (List.range n).map f
theorem cellsF_len (n : Nat) (f : Nat → Value) : (cellsF n f).length = n := by simp [cellsF]
theorem cellsF_get {n : Nat} {f : Nat → Value} {i : Nat} (h : i < n) : (cellsF n f)[i]? = some (f i) := by simp [cellsF, h]
theorem cellsF_ext {n : Nat} {f : Nat → Value} {cs : List Value} (hl : cs.length = n) (h : ∀ i, i < n → cs[i]? = some (f i)) : cs = cellsF n f := by
  apply List.ext_getElem?
  intro i
  by_cases hi : i < n
  · rw [h i hi, cellsF_get hi]
  · rw [List.getElem?_eq_none (by omega), List.getElem?_eq_none (by rw [cellsF_len]; omega)]
theorem wrl_get {cs : List Value} {k : Nat} {v : Value} (h : k < cs.length) (j : Nat) : (wrl cs k [v])[j]? = if j = k then some v else cs[j]? := by
  unfold wrl
  simp only [List.length_cons, List.length_nil, Nat.zero_add]
  by_cases h1 : j < k
  · rw [List.append_assoc, List.getElem?_append_left (by simp; omega), List.getElem?_take_of_lt h1, if_neg (by omega)]
  · by_cases h2 : j = k
    · subst h2
      rw [if_pos rfl, List.append_assoc, List.getElem?_append_right (by simp; omega)]
      simp [List.length_take, Nat.min_eq_left (Nat.le_of_lt h)]
    · rw [if_neg h2, List.getElem?_append_right (by simp; omega)]
      simp only [List.length_append, List.length_take, List.length_cons, List.length_nil, Nat.min_eq_left (Nat.le_of_lt h), List.getElem?_drop]
      congr 1; omega
theorem wrl_len {cs : List Value} {k : Nat} {v : Value} (h : k < cs.length) : (wrl cs k [v]).length = cs.length := by
  unfold wrl; simp; omega
theorem wrl_cellsF {n : Nat} {f : Nat → Value} {i : Nat} {v : Value} (h : i < n) : wrl (cellsF n f) i [v] = cellsF n fun j => if j = i then v else f j := by
  have hl : i < (cellsF n f).length := by rw [cellsF_len]; exact h
  refine cellsF_ext (by rw [wrl_len hl, cellsF_len]) fun j hj => ?_
  rw [wrl_get hl]
  split
  · rfl
  · exact cellsF_get hj
theorem zeroCells_cells (z : Value) (n : Nat) (hz : z.cells = #[z]) : (Builtin.zeroCells z.cells n).toList = cellsF n fun _ => z := by
  refine cellsF_ext (by simp [Builtin.zeroCells, hz]) fun i hi => ?_
  simp [Builtin.zeroCells, hz, hi, Nat.mod_one]
theorem cellsF_congr {n : Nat} {f g : Nat → Value} (h : ∀ i, i < n → f i = g i) : cellsF n f = cellsF n g := by
  refine cellsF_ext (cellsF_len n f) fun i hi => ?_
  rw [cellsF_get hi, h i hi]
theorem byteCells_cellsF {bs : List UInt8} {n : Nat} {f : Nat → Value} (hl : bs.length = n) (h : ∀ i (hi : i < bs.length), f i = .int .u8 ((bs[i]).toNat : Int)) : byteCells bs = cellsF n f := by
  refine cellsF_ext (by simp [byteCells, hl]) fun i hi => ?_
  have hi' : i < bs.length := by omega
  simp [byteCells, hi', h i hi']

theorem ofL_append (a b : List UInt8) : ofL a ++ ofL b = ofL (a ++ b) := bs_inj (by rw [bs_append, bs_ofL, bs_ofL, bs_ofL])

/-! ### numbers of 32 bits -/
theorem u32_id {x : Int} (h : 0 ≤ x ∧ x < 4294967296) : IntKind.u32.wrap x = x := by rw [IntKind.wrap_u32]; omega
theorem ibits_u32 (a b : BitVec 32) : ibits .and .u32 (a.toNat : Int) (b.toNat : Int) = ((a &&& b).toNat : Int) ∧ ibits .xor .u32 (a.toNat : Int) (b.toNat : Int) = ((a ^^^ b).toNat : Int) := by
  have h : ∀ x : BitVec 32, BitVec.ofInt 32 (x.toNat : Int) = x := fun x => by apply BitVec.eq_of_toNat_eq; rw [BitVec.toNat_ofInt]; have := x.isLt; omega
  constructor
  · show IntKind.u32.wrap ((BitVec.ofInt 32 (a.toNat : Int) &&& BitVec.ofInt 32 (b.toNat : Int)).toNat : Int) = _
    rw [h, h]; have := (a &&& b).isLt; exact u32_id (by omega)
  · show IntKind.u32.wrap ((BitVec.ofInt 32 (a.toNat : Int) ^^^ BitVec.ofInt 32 (b.toNat : Int)).toNat : Int) = _
    rw [h, h]; have := (a ^^^ b).isLt; exact u32_id (by omega)
end Go.Proofs.Ytpnbehgkbfhacaa.K
