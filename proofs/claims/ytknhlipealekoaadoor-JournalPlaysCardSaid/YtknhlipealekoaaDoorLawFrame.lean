/- Frames one behind the other; the example of layer 3. -/
import Derived.Test.YtknhlipealekoaaDoorSpecFrame
set_option linter.unusedVariables false
set_option linter.unusedSimpArgs false
namespace Go.Proofs.YtknhlipealekoaaDoor.K
open Go

theorem nextL_nil : nextL [] = .no 3 := rfl
theorem nextL_cut {t : List UInt8} (ht : t.length ≤ 60000) {k : Nat} (hk : k < t.length + 6) : nextL ((sealL t).take k) = .no 3 := by
  have hl : ((sealL t).take k).length = k := by rw [List.length_take, sealL_len]; omega
  unfold nextL
  rw [hl]
  by_cases h6 : k < 6
  · rw [if_pos h6]
  rw [if_neg h6]
  have e4 : (sealL t).drop 4 = fixL 2 t.length ++ t := by
    unfold sealL
    rw [List.append_assoc, List.drop_append, fixL_len, List.drop_eq_nil_of_le (by rw [fixL_len]; omega)]
    simp
  have e2 : (((sealL t).take k).drop 4).take 2 = fixL 2 t.length := by
    rw [List.drop_take, e4, List.take_take, List.take_append_of_le_length (by rw [fixL_len]; omega), List.take_of_length_le (by rw [fixL_len]; omega)]
  rw [e2, fixV_fixL 2 _ (by omega), if_neg (by omega), if_pos (by omega)]

def flatS (ts : List (List UInt8)) : List UInt8 := ts.flatMap sealL
theorem flatS_nil : flatS [] = [] := rfl
theorem flatS_cons (t : List UInt8) (ts : List (List UInt8)) : flatS (t :: ts) = sealL t ++ flatS ts := rfl
theorem flatS_append (a b : List (List UInt8)) : flatS (a ++ b) = flatS a ++ flatS b := by simp [flatS]
/-- Cut anywhere, the first so many are whole. -/
theorem flatS_cut : ∀ (ts : List (List UInt8)) (n : Nat), (∀ t ∈ ts, t.length ≤ 60000) → n ≤ (flatS ts).length →
    ∃ many rest, many ≤ ts.length ∧ (flatS ts).take n = flatS (ts.take many) ++ rest ∧ nextL rest = .no 3 ∧ (∀ j, j ≤ many → (flatS (ts.take j)).length ≤ n) ∧ (many < ts.length → n < (flatS (ts.take (many + 1))).length)
  | [], n, _, hn => ⟨0, [], by simp, by simp [flatS], nextL_nil, fun j hj => by simp [flatS], fun h => by simp at h⟩
  | t :: ts, n, ht, hn => by
    have h60 := ht t (by simp)
    by_cases hk : n < t.length + 6
    · refine ⟨0, (sealL t).take n, by simp, ?_, nextL_cut h60 hk, fun j hj => ?_, fun _ => ?_⟩
      · rw [flatS_cons, List.take_append_of_le_length (by rw [sealL_len]; omega)]; simp [flatS]
      · obtain rfl : j = 0 := by omega
        simp [flatS]
      · simp only [Nat.zero_add, List.take_succ_cons, List.take_zero, flatS_cons, flatS_nil, List.append_nil, sealL_len]; exact hk
    · rw [flatS_cons, List.length_append, sealL_len] at hn
      obtain ⟨many, rest, h1, h2, h3, h4, h5⟩ := flatS_cut ts (n - (t.length + 6)) (fun u hu => ht u (by simp [hu])) (by omega)
      refine ⟨many + 1, rest, by simp; omega, ?_, h3, fun j hj => ?_, fun hm => ?_⟩
      · rw [flatS_cons, List.take_succ_cons, flatS_cons, List.append_assoc, ← h2, List.take_append, sealL_len, List.take_of_length_le (by rw [sealL_len]; omega)]
      · cases j with
        | zero => simp [flatS]
        | succ j =>
          have := h4 j (by omega)
          rw [List.take_succ_cons, flatS_cons, List.length_append, sealL_len]; omega
      · have := h5 (by simpa using hm)
        rw [List.take_succ_cons, flatS_cons, List.length_append, sealL_len]; omega

theorem one_str {s : ByteArray} : ∀ u ∈ [Value.string s], u.oneCell' = true := by simp [Value.oneCell']
theorem one_int {k : IntKind} {x : Int} : ∀ u ∈ [Value.int k x], u.oneCell' = true := by simp [Value.oneCell']
theorem All_loop {F : Nat} (hF : 10 ≤ F) {K : Sl → Int → SH → Prop} {s : ByteArray} (hs : s.size ≤ 1000000) (hsF : s.size < F) (H : SH) {rest : List UInt8} {c : Int} (hrest : nextL rest = .no c) : ∀ (todo done : List (List UInt8)) (l : Sl) (H' : SH) (k : Nat),
    bs s = flatS done ++ flatS todo ++ rest → (∀ t ∈ todo, t.length ≤ 60000) → Own H H' 9 1 l (done.map fun t => .string (ofL t)) → todo.length < k →
    (∀ l H', Own H H' 9 1 l ((done ++ todo).map fun t => .string (ofL t)) → K l (flatS (done ++ todo)).length H') → frame_All.l1 F K k s l (flatS done).length H' := by
  intro todo
  induction todo with
  | nil =>
    intro done l H' k hb ht ho hk h
    obtain ⟨k, rfl⟩ : ∃ j, k = j + 1 := ⟨k - 1, by omega⟩
    have hp : (flatS done).length ≤ s.size := by rw [← bs_len, hb]; simp
    refine Next_spec hF (by omega) hsF hp ?_
    rw [hb, flatS_nil, List.append_nil, List.drop_left, hrest]
    refine o_some ⟨H', .refl _, ?_⟩
    simp only [List.append_nil] at h
    exact h l H' ho
  | cons t todo ih =>
    intro done l H' k hb ht ho hk h
    obtain ⟨k, rfl⟩ : ∃ j, k = j + 1 := ⟨k - 1, by omega⟩
    have h60 := ht t (by simp)
    rw [flatS_cons] at hb
    have hp : (flatS done).length ≤ s.size := by rw [← bs_len, hb]; simp
    have hsz : s.size = (flatS done).length + (t.length + 6) + (flatS todo).length + rest.length := by rw [← bs_len, hb]; simp [sealL_len]; omega
    have hlen : l.len = done.length := by have := ho.len; simp at this; omega
    have hdl : done.length ≤ s.size := by
      have : ∀ d : List (List UInt8), d.length ≤ (flatS d).length := by
        intro d
        induction d with
        | nil => simp
        | cons u d ihd => rw [flatS_cons, List.length_append, sealL_len, List.length_cons]; omega
      have := this done; omega
    refine Next_spec hF (by omega) hsF hp ?_
    have hd : (bs s).drop (flatS done).length = sealL t ++ (flatS todo ++ rest) := by rw [hb]; simp
    rw [hd, nextL_seal h60]
    refine o_none ?_
    have e : s.extract ((flatS done).length + 6) ((flatS done).length + 6 + t.length) = ofL t := by
      apply bs_inj
      rw [bs_extract, bs_ofL, List.drop_take, ← List.drop_drop, hd]
      have e6 : (sealL t ++ (flatS todo ++ rest)).drop 6 = t ++ (flatS todo ++ rest) := by
        unfold sealL
        have : (fixL 4 (sumV (fixL 2 t.length ++ t)) ++ fixL 2 t.length).length = 6 := by simp [fixL_len]
        rw [List.append_assoc _ t, ← this, List.drop_left]
      rw [e6, show (flatS done).length + 6 + t.length - ((flatS done).length + 6) = t.length by omega, List.take_left]
    rw [e]
    refine ho.append (by rw [hlen]; omega) (by omega) rfl one_str fun l' H'' ho' hl' => ?_
    have := ih (done ++ [t]) l' H'' k (by rw [hb, flatS_append]; simp [flatS]) (fun u hu => ht u (by simp [hu])) (by simpa using ho') (by simp at hk; omega) (by simpa using h)
    rw [flatS_append, List.length_append] at this
    simp only [flatS_cons, flatS_nil, List.append_nil, sealL_len] at this
    rw [show (flatS done).length + 6 + t.length = (flatS done).length + (t.length + 6) by omega]
    exact this
theorem All_spec {F : Nat} (hF : 10 ≤ F) {s : ByteArray} (hs : s.size ≤ 1000000) (hsF : s.size < F) {H : SH} {ts : List (List UInt8)} {rest : List UInt8} {c : Int} (hb : bs s = flatS ts ++ rest) (hrest : nextL rest = .no c) (ht : ∀ t ∈ ts, t.length ≤ 60000) (hF2 : ts.length < F)
    {K : Sl → Int → SH → Prop} (h : ∀ l H', Own H H' 9 1 l (ts.map fun t => .string (ofL t)) → K l (flatS ts).length H') : frame_All.wp F s H K := by
  have := All_loop hF hs hsF H hrest ts [] Sl.nil H F (by simpa [flatS] using hb) ht (Own.nil H 9 1) hF2 (by simpa using h)
  exact this
end Go.Proofs.YtknhlipealekoaaDoor.K
