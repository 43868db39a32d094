/- Frames one behind the other; the example of layer 3. -/
import Derived.Test.YtkfbmoekghbgbaaDoorSpecFrame
set_option linter.unusedVariables false
set_option linter.unusedSimpArgs false
namespace Go.Proofs.YtkfbmoekghbgbaaDoor.K
open Go

theorem nextL_nil : nextL [] = .no 3 := rfl
theorem nextL_cut {t : List UInt8} (ht : t.length ≤ 60000) {k : Nat} (hk : k < t.length + 6) : nextL ((sealL t).take k) = .no 3 := by
  have hl : ((sealL t).take k).length = k := by rw [List.length_take, sealL_len]; omega
  unfold nextL
  rw [hl]
  by_cases h6 : k < 6
  · rw [if_pos h6]
  rw [if_neg h6]
  have e4 : (sealL t).drop 4 = fixL 2 t.length ++ t := by
    unfold sealL
    rw [List.append_assoc, List.drop_append, fixL_len, List.drop_eq_nil_of_le (by rw [fixL_len]; omega)]
    simp
  have e2 : (((sealL t).take k).drop 4).take 2 = fixL 2 t.length := by
    rw [List.drop_take, e4, List.take_take, List.take_append_of_le_length (by rw [fixL_len]; omega), List.take_of_length_le (by rw [fixL_len]; omega)]
  rw [e2, fixV_fixL 2 _ (by omega), if_neg (by omega), if_pos (by omega)]

def flatS (ts : List (List UInt8)) : List UInt8 := ts.flatMap sealL
theorem flatS_nil : flatS [] = [] := rfl
theorem flatS_cons (t : List UInt8) (ts : List (List UInt8)) : flatS (t :: ts) = sealL t ++ flatS ts := rfl
theorem flatS_append (a b : List (List UInt8)) : flatS (a ++ b) = flatS a ++ flatS b := by simp [flatS]
/-- Cut anywhere, the first so many are whole. -/
theorem flatS_cut : ∀ (ts : List (List UInt8)) (n : Nat), (∀ t ∈ ts, t.length ≤ 60000) → n ≤ (flatS ts).length →
    ∃ many rest, many ≤ ts.length ∧ (flatS ts).take n = flatS (ts.take many) ++ rest ∧ nextL rest = .no 3 ∧ (∀ j, j ≤ many → (flatS (ts.take j)).length ≤ n) ∧ (many < ts.length → n < (flatS (ts.take (many + 1))).length)
  | [], n, _, hn => ⟨0, [], by simp, by simp [flatS], nextL_nil, fun j hj => by simp [flatS], fun h => by simp at h⟩
  | t :: ts, n, ht, hn => by
    have h60 := ht t (by simp)
    by_cases hk : n < t.length + 6
    · refine ⟨0, (sealL t).take n, by simp, ?_, nextL_cut h60 hk, fun j hj => ?_, fun _ => ?_⟩
      · rw [flatS_cons, List.take_append_of_le_length (by rw [sealL_len]; omega)]; simp [flatS]
      · obtain rfl : j = 0 := by omega
        simp [flatS]
      · simp only [Nat.zero_add, List.take_succ_cons, List.take_zero, flatS_cons, flatS_nil, List.append_nil, sealL_len]; exact hk
    · rw [flatS_cons, List.length_append, sealL_len] at hn
      obtain ⟨many, rest, h1, h2, h3, h4, h5⟩ := flatS_cut ts (n - (t.length + 6)) (fun u hu => ht u (by simp [hu])) (by omega)
      refine ⟨many + 1, rest, by simp; omega, ?_, h3, fun j hj => ?_, fun hm => ?_⟩
      · rw [flatS_cons, List.take_succ_cons, flatS_cons, List.append_assoc, ← h2, List.take_append, sealL_len, List.take_of_length_le (by rw [sealL_len]; omega)]
      · cases j with
        | zero => simp [flatS]
        | succ j =>
          have := h4 j (by omega)
          rw [List.take_succ_cons, flatS_cons, List.length_append, sealL_len]; omega
      · have := h5 (by simpa using hm)
        rw [List.take_succ_cons, flatS_cons, List.length_append, sealL_len]; omega

theorem one_str {s : ByteArray} : ∀ u ∈ [Value.string s], u.oneCell' = true := by simp [Value.oneCell']
theorem one_int {k : IntKind} {x : Int} : ∀ u ∈ [Value.int k x], u.oneCell' = true := by simp [Value.oneCell']
end Go.Proofs.YtkfbmoekghbgbaaDoor.K
