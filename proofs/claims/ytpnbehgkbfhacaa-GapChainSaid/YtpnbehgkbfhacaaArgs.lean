/- A row's arguments, opened; what is in memory is read. -/
import Derived.Test.YtpnbehgkbfhacaaRow
import Derived.Test.YtpnbehgkbfhacaaLib2
import Derived.Deep.Strs
import Derived.ChangeSlices
import Derived.ChangeMaps5
import Derived.Lib.SmallJoins
set_option linter.unusedVariables false
set_option linter.unusedSimpArgs false
namespace Go.Proofs.Ytpnbehgkbfhacaa.K
open Go Go.RowKit Go.ChangeShapes Go.Deep

theorem lit_range {k : IntKind} {x : Int} (h : (Lit.int k x).wf = true) : k.min ≤ x ∧ x ≤ k.max := by
  simp only [Lit.wf, Bool.and_eq_true, decide_eq_true_eq] at h; exact h

/-- All that lies in memory, to be read. -/
def SH.of (W : World) : SH := fun b => match W.heap[b]? with
  | some (.cells c t _) => some ⟨c.toList, t, true, c.size⟩
  | _ => none
theorem SH.of_sat (W : World) : Sat (SH.of W) W := by
  intro b o hb
  unfold SH.of at hb
  cases hh : W.heap[b]? with
  | none => rw [hh] at hb; cases hb
  | some x =>
    rw [hh] at hb
    cases x with
    | cells c t fz => cases hb; exact SatO.mk rfl ⟨[], fz, by simp, by simp, fun h => by cases h⟩
    | _ => cases hb
theorem SH.of_ro {W : World} {b : Nat} {o : AO} (hb : SH.of W b = some o) : o.fix = true := by
  unfold SH.of at hb
  cases hh : W.heap[b]? with
  | none => rw [hh] at hb; cases hb
  | some x =>
    rw [hh] at hb
    cases x with
    | cells c t fz => cases hb; rfl
    | _ => cases hb
theorem SH.of_cell {W : World} {p : Nat × Nat} {v : Value} (h : W.cell? (ad p) = some v) : ∃ o, SH.of W p.1 = some o ∧ o.cells[p.2]? = some v := by
  unfold World.cell? ad at h
  unfold SH.of
  cases hh : W.heap[p.1]? with
  | none => simp [hh] at h
  | some x =>
    cases x with
    | cells c t fz => simp [hh] at h; exact ⟨_, rfl, by simpa using h⟩
    | _ => simp [hh] at h
theorem SH.of_row {W : World} {p : Nat × Nat} {n : Nat} {V : Nat → Value} (h : ∀ i, i < n → W.cell? ((ad p).add i) = some (V i)) : (SH.of W).row (some p) (cellsF n V) := by
  cases n with
  | zero => exact .inl rfl
  | succ n =>
    obtain ⟨o, h1, _⟩ := SH.of_cell (by have := h 0 (by omega); rw [add_ad] at this; exact this)
    refine .inr ⟨p, o, rfl, h1, fun j u hu => ?_⟩
    have hj : j < n + 1 := by have := (List.getElem?_eq_some_iff.1 hu).1; rwa [cellsF_len] at this
    rw [cellsF_get hj] at hu
    cases hu
    obtain ⟨o', h2, h3⟩ := SH.of_cell (by have := h j hj; rw [add_ad] at this; exact this)
    rw [h1] at h2; cases h2
    exact h3
section
variable {H : Type} {enc : TypeId × Value → H} {P : Program} {W : World} {base : Nat}
theorem arg_spot {t e : TypeId} {a : Addr} {len cap : Nat} (ht : P.underlying t = some (.slice e)) (h : Value.okWide P W .any base t (.slice (some a) len cap)) : a = ad (a.block, a.off) := by
  simp only [Value.okWide, ht, Cell.okWide] at h
  unfold Cell.ok at h
  rw [ht] at h
  have hs := h.2.2.2.1
  cases a with
  | mk b o s => simp only at hs; subst hs; rfl
/-- '[]string'. -/
theorem arg_strs {t e : TypeId} {v : Value} {d : DataW H} {p : List MemPlace} (ht : P.underlying t = some (.slice e)) (he : P.underlying e = some .string) (hc : P.cellsOf e = 1) (hval : Value.okWide P W .any base t v) (hd : DataW.Trod enc P W 0 (fun _ => true) true t v d p) :
    ∃ (l : Sl) (ss : List ByteArray), v = sv l ∧ l.len = ss.length ∧ l.len ≤ l.cap ∧ (SH.of W).row l.a (ss.map fun s => .string s) ∧ ∀ s ∈ ss, s.size ≤ maxLen := by
  obtain ⟨a, len, cap, rfl⟩ := Go.WideShapes.okWide_slice ht hval
  obtain ⟨fuel, hf⟩ := hd
  rcases open_strs ht he hc hf with ⟨h1, _⟩ | ⟨a', len', cap', m, Sx, h1, _, hl, hm, hmm, _, hx⟩
  · simp [Value.cells] at h1
    obtain ⟨rfl, rfl, rfl⟩ := h1
    exact ⟨Sl.nil, [], rfl, rfl, Nat.le_refl _, .inl rfl, fun _ h => by cases h⟩
  · simp [Value.cells] at h1
    obtain ⟨rfl, rfl, rfl⟩ := h1
    have ha := arg_spot ht hval
    simp only [if_true] at hmm
    refine ⟨⟨some (a'.block, a'.off), len, cap⟩, (List.range len).map Sx, by rw [ha]; rfl, by simp, hl, ?_, fun s hs => ?_⟩
    · have := SH.of_row (W := W) (p := (a'.block, a'.off)) (n := len) (V := fun i => .string (Sx i)) fun i hi => by rw [← ha]; exact (hx i (by omega)).1
      simpa [cellsF, Function.comp_def] using this
    · obtain ⟨i, hi, rfl⟩ := List.mem_map.1 hs
      exact (hx i (by have := List.mem_range.1 hi; omega)).2
theorem cell_str {u : TypeId} {v : Value} (hu : P.underlying u = some .string) (h : Cell.okWide P W .any base u v) : ∃ s, v = .string s ∧ (s.size : Int) ≤ 9223372036854775807 := by
  unfold Cell.okWide Cell.ok at h
  rw [hu] at h
  cases v <;> simp at h
  exact ⟨_, rfl, h⟩
theorem cell_int {u : TypeId} {k : IntKind} {v : Value} (hu : P.underlying u = some (.int k)) (h : Cell.okWide P W .any base u v) : ∃ n, v = .int k n ∧ k.min ≤ n ∧ n ≤ k.max := by
  unfold Cell.okWide Cell.ok at h
  rw [hu] at h
  cases v <;> simp at h
  obtain ⟨rfl, h⟩ := h
  exact ⟨_, rfl, h.1, h.2⟩
/-- A struct, or an array: its cells. -/
theorem arg_agg {t : TypeId} {v : Value} {ts : List TypeId} (ht : (∃ n e, P.underlying t = some (.array n e)) ∨ ∃ fs, P.underlying t = some (.struct fs)) (hts : P.cellTypes P.depth t = some ts) (hc : P.cellsOf t = ts.length) (hval : Value.okWide P W .any base t v) :
    ∃ cs : List Value, v = .agg cs.toArray ∧ cs.length = ts.length ∧ ∀ (i : Nat) (c : Value) (u : TypeId), cs[i]? = some c → ts[i]? = some u → Cell.okWide P W .any base u c := by
  have h : ∃ cs, v = .agg cs ∧ cs.size = P.cellsOf t ∧ Row.okWide P W .any base t cs := by
    rcases ht with ⟨n, e, ht⟩ | ⟨fs, ht⟩
    · simpa only [Value.okWide, ht] using hval
    · simpa only [Value.okWide, ht] using hval
  obtain ⟨cs, rfl, hsz, ts', hts', _, hcell⟩ := h
  rw [hts] at hts'; cases hts'
  refine ⟨cs.toList, by simp, by simpa [hc] using hsz, fun i c u hi hu => ?_⟩
  obtain ⟨u', hu', hok⟩ := hcell i c (by simpa using hi)
  have hlt : i < ts.length := (List.getElem?_eq_some_iff.1 hu).1
  rw [Nat.mod_eq_of_lt hlt, hu] at hu'
  cases hu'; exact hok
theorem cell_spot {t e : TypeId} {a : Addr} {len cap : Nat} (ht : P.underlying t = some (.slice e)) (h : Cell.okWide P W .any base t (.slice (some a) len cap)) : a = ad (a.block, a.off) := by
  unfold Cell.okWide Cell.ok at h
  rw [ht] at h
  have hs := h.2.2.2.1
  cases a with
  | mk b o s => simp only at hs; subst hs; rfl
/-- A slice of numbers, in a cell. -/
theorem cell_ints {t e : TypeId} {k : IntKind} {v : Value} {n : Nat} {y : DataW H × List MemPlace} (ht : P.underlying t = some (.slice e)) (he : P.underlying e = some (.int k)) (hc : P.cellsOf e = 1) (hv : Cell.okWide P W .any base t v) (hd : DataW.trod enc P W 0 (fun _ => true) true n t [v] = some y) :
    ∃ (l : Sl) (zs : List Int), v = sv l ∧ l.len = zs.length ∧ l.len ≤ l.cap ∧ (SH.of W).row l.a (zs.map fun z => .int k z) ∧ ∀ z ∈ zs, k.min ≤ z ∧ z ≤ k.max := by
  rcases open_ints ht he hc hd with ⟨h1, _⟩ | ⟨a, len, cap, zs, h1, _, hl, hm, hz, _, hx, hw⟩
  · obtain rfl : v = .slice none 0 0 := by simpa using h1
    exact ⟨Sl.nil, [], rfl, rfl, Nat.le_refl _, .inl rfl, fun _ h => by cases h⟩
  · obtain rfl : v = .slice (some a) len cap := by simpa using h1
    have ha := cell_spot ht hv
    simp only [if_true] at hz
    refine ⟨⟨some (a.block, a.off), len, cap⟩, zs.take len, by rw [ha]; rfl, by simp; omega, hl, ?_, fun z hz' => lit_range (hw z (List.mem_of_mem_take hz'))⟩
    have := SH.of_row (W := W) (p := (a.block, a.off)) (n := len) (V := fun i => .int k (zs.getD i 0)) fun i hi => by rw [← ha]; exact hx i (by omega)
    have e : (zs.take len).map (fun z => Value.int k z) = cellsF len fun i => .int k (zs.getD i 0) := by
      refine cellsF_ext (by simp; omega) fun i hi => ?_
      have h2 : i < zs.length := by omega
      simp [List.getElem?_take, hi, h2, List.getD]
    rw [e]; exact this
end
end Go.Proofs.Ytpnbehgkbfhacaa.K
