/- More of a row's arguments: slices of tables. -/
import Derived.Test.YtpnbehgkbfhacaaArgs
import Derived.Deep.Slices
set_option linter.unusedVariables false
set_option linter.unusedSimpArgs false
namespace Go.Proofs.Ytpnbehgkbfhacaa.K
open Go Go.RowKit Go.ChangeShapes Go.Deep

section
variable {H : Type} {enc : TypeId × Value → H} {P : Program} {W : World} {base : Nat}
/-- A slice of whatever: its cells, and how each element reads. -/
theorem arg_rowsG {t e : TypeId} {c : Nat} {v : Value} {d : DataW H} {p : List MemPlace} (ht : P.underlying t = some (.slice e)) (hc : P.cellsOf e = c) (hval : Value.okWide P W .any base t v) (hd : DataW.Trod enc P W 0 (fun _ => true) true t v d p) :
    ∃ (l : Sl) (V : Nat → Value) (n : Nat), v = sv l ∧ l.len ≤ l.cap ∧ (SH.of W).row l.a (cellsF (l.len * c) V) ∧ ∀ i, i < l.len → ∃ y, DataW.trod enc P W 0 (fun _ => true) true n e ((List.range c).map fun j => V (i * c + j)) = some y := by
  obtain ⟨a, len, cap, rfl⟩ := Go.WideShapes.okWide_slice ht hval
  obtain ⟨fuel, hf⟩ := hd
  rcases open_slice ht hf with ⟨h1, _⟩ | ⟨a', len', cap', m, n, D, Pl, h1, _, hl, hm, hmm, _, hx⟩
  · simp [Value.cells] at h1
    obtain ⟨rfl, rfl, rfl⟩ := h1
    exact ⟨Sl.nil, fun _ => undef, 0, rfl, Nat.le_refl _, .inl (by simp [Sl.nil, cellsF]), fun i hi => by simp [Sl.nil] at hi⟩
  · simp [Value.cells] at h1
    obtain ⟨rfl, rfl, rfl⟩ := h1
    have ha := arg_spot ht hval
    simp only [if_true] at hmm
    rw [hc] at hx
    have cell : ∀ i, i < m → ∀ j, j < c → ∃ u, W.cell? (a'.add (i * c + j)) = some u := fun i hi j hj => by
      obtain ⟨cs', k1, k2⟩ := hx i hi
      obtain ⟨_, hlen, hcell⟩ := World.cells?_some k1
      have := hcell j hj
      rw [add_add] at this
      exact ⟨cs'[j]'(by omega), by rw [this, List.getElem?_eq_getElem (by omega)]⟩
    refine ⟨⟨some (a'.block, a'.off), len, cap⟩, fun q => (W.cell? (a'.add q)).getD undef, n, by rw [ha]; rfl, hl, ?_, fun i hi => ?_⟩
    · refine SH.of_row fun q hq => ?_
      rw [← ha]
      have hq' : q < len * c := hq
      have hc0 : 0 < c := by rcases Nat.eq_zero_or_pos c with h | h; · rw [h] at hq'; omega
                             · exact h
      obtain ⟨u, hu⟩ := cell (q / c) (by have : q / c < len := Nat.div_lt_of_lt_mul (by rw [Nat.mul_comm]; exact hq'); omega) (q % c) (Nat.mod_lt _ hc0)
      rw [show q / c * c + q % c = q by rw [Nat.mul_comm]; exact Nat.div_add_mod q c] at hu
      rw [hu]; rfl
    · obtain ⟨cs', k1, k2⟩ := hx i (by have : i < len := hi; omega)
      obtain ⟨_, hlen, hcell⟩ := World.cells?_some k1
      have e : cs' = (List.range c).map fun j => (W.cell? (a'.add (i * c + j))).getD undef := by
        apply List.ext_getElem?
        intro j
        by_cases hj : j < c
        · have := hcell j hj
          rw [add_add] at this
          rw [List.getElem?_map, List.getElem?_range hj, Option.map_some, this, List.getElem?_eq_getElem (by omega)]; rfl
        · rw [List.getElem?_eq_none (by omega), List.getElem?_eq_none (by simp; omega)]
      rw [e] at k2
      exact ⟨_, k2⟩
theorem trod_array {t e : TypeId} {m n : Nat} {cs : List Value} {y : DataW H × List MemPlace} (ht : P.underlying t = some (.array m e)) (h : DataW.trod enc P W 0 (fun _ => true) true n t cs = some y) :
    ∃ n', ∀ i, i < m → ∃ y', DataW.trod enc P W 0 (fun _ => true) true n' e ((cs.drop (i * P.cellsOf e)).take (P.cellsOf e)) = some y' := by
  cases n with
  | zero => simp [DataW.trod] at h
  | succ n =>
    rw [DataW.trod_step] at h
    unfold DataW.trodStep at h
    simp only [ht] at h
    split at h
    · rw [Option.map_eq_some_iff] at h
      obtain ⟨xs, hxs, _⟩ := h
      refine ⟨n, fun i hi => ?_⟩
      have hl := mapM_some_length hxs
      have := mapM_some_get hxs i i (by simp [hi])
      rw [List.getElem?_eq_getElem (by rw [hl]; simpa using hi)] at this
      exact ⟨_, this⟩
    · cases h
/-- '[][2]' of small numbers. -/
theorem arg_pairs {t e u : TypeId} {k : IntKind} {v : Value} {d : DataW H} {p : List MemPlace} (ht : P.underlying t = some (.slice e)) (he : P.underlying e = some (.array 2 u)) (hu : P.underlying u = some (.int k)) (hc : P.cellsOf e = 2) (hcu : P.cellsOf u = 1) (hval : Value.okWide P W .any base t v) (hd : DataW.Trod enc P W 0 (fun _ => true) true t v d p) :
    ∃ (l : Sl) (xs : List (Int × Int)), v = sv l ∧ l.len = xs.length ∧ l.len ≤ l.cap ∧ (SH.of W).row l.a (xs.flatMap fun x => [.int k x.1, .int k x.2]) ∧ ∀ x ∈ xs, (k.min ≤ x.1 ∧ x.1 ≤ k.max) ∧ (k.min ≤ x.2 ∧ x.2 ≤ k.max) := by
  obtain ⟨l, V, n, rfl, hl, hr, hx⟩ := arg_rowsG ht hc hval hd
  have each : ∀ i, i < l.len → ∃ x : Int × Int, V (i * 2) = .int k x.1 ∧ V (i * 2 + 1) = .int k x.2 ∧ (k.min ≤ x.1 ∧ x.1 ≤ k.max) ∧ (k.min ≤ x.2 ∧ x.2 ≤ k.max) := fun i hi => by
    obtain ⟨y, hy⟩ := hx i hi
    obtain ⟨n', h'⟩ := trod_array he hy
    rw [hcu] at h'
    obtain ⟨y0, h0⟩ := h' 0 (by omega)
    obtain ⟨y1, h1⟩ := h' 1 (by omega)
    have e : (List.range 2).map (fun j => V (i * 2 + j)) = [V (i * 2), V (i * 2 + 1)] := rfl
    rw [e] at h0 h1
    obtain ⟨a, ha, _, wa⟩ := DataW.trod_int hu h0
    obtain ⟨b, hb, _, wb⟩ := DataW.trod_int hu h1
    exact ⟨(a, b), by simpa using ha, by simpa using hb, lit_range wa, lit_range wb⟩
  obtain ⟨f, hf⟩ := choose_lt each
  refine ⟨l, (List.range l.len).map f, rfl, by simp, hl, ?_, fun x hx' => ?_⟩
  · have e : (((List.range l.len).map f).flatMap fun x => [Value.int k x.1, .int k x.2]) = cellsF (l.len * 2) V := by
      have : ∀ m, m ≤ l.len → (((List.range m).map f).flatMap fun x => [Value.int k x.1, .int k x.2]) = cellsF (m * 2) V := by
        intro m
        induction m with
        | zero => intro _; rfl
        | succ m ih =>
          intro hm
          rw [List.range_succ, List.map_append, List.flatMap_append, ih (by omega)]
          obtain ⟨g1, g2, _⟩ := hf m (by omega)
          simp only [cellsF, show (m + 1) * 2 = m * 2 + 1 + 1 by omega, List.range_succ, List.map_append, List.map_cons, List.map_nil, List.flatMap_cons, List.flatMap_nil, ← g1, ← g2]
          simp
      exact this _ (Nat.le_refl _)
    rw [e]; exact hr
  · obtain ⟨i, hi, rfl⟩ := List.mem_map.1 hx'
    exact (hf i (List.mem_range.1 hi)).2.2
theorem cell_bool {u : TypeId} {v : Value} (hu : P.underlying u = some .bool) (h : Cell.okWide P W .any base u v) : ∃ b, v = .bool b := by
  unfold Cell.okWide Cell.ok at h
  rw [hu] at h
  cases v <;> simp at h
  exact ⟨_, rfl⟩
theorem arg_bool {u : TypeId} {v : Value} (hu : P.underlying u = some .bool) (h : Value.okWide P W .any base u v) : ∃ b, v = .bool b := by
  unfold Value.okWide at h
  rw [hu] at h
  exact cell_bool hu h
end
end Go.Proofs.Ytpnbehgkbfhacaa.K
