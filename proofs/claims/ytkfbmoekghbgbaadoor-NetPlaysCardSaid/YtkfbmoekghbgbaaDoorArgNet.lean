/- What the laws of net take: operations. -/
import Derived.Test.YtkfbmoekghbgbaaDoorArgs2
import Derived.Test.YtkfbmoekghbgbaaDoorSatOps
import Derived.Test.YtkfbmoekghbgbaaDoorProg
set_option linter.unusedVariables false
set_option linter.unusedSimpArgs false
namespace Go.Proofs.YtkfbmoekghbgbaaDoor.K
open Go
structure NOp where
  k : Int
  a : Int
  b : Int
  y : Int
  s : ByteArray
deriving Inhabited
def NOp.c (o : NOp) : List Value := [.int .i64 o.k, .int .i64 o.a, .int .i64 o.b, .int .u8 o.y, .string o.s]
def noc (l : List NOp) : List Value := l.flatMap NOp.c
theorem noc_app (a b : List NOp) : noc (a ++ b) = noc a ++ noc b := by simp [noc]
theorem noc_len : ∀ l : List NOp, (noc l).length = l.length * 5
  | [] => rfl
  | x :: l => by
    have := noc_len l
    unfold noc at this ⊢
    rw [List.flatMap_cons, List.length_append, this, List.length_cons]
    show 5 + _ = _; omega
theorem noc_get {l : List NOp} {i j : Nat} (h : i < l.length) (hj : j < 5) : (noc l)[i * 5 + j]? = (l[i].c)[j]? := by
  have e1 : noc [l[i]] = l[i].c := by simp [noc]
  have e : noc l = noc (l.take i) ++ (l[i].c ++ noc (l.drop (i + 1))) := by
    rw [← e1, ← noc_app, ← noc_app, List.singleton_append, ← List.drop_eq_getElem_cons h, List.take_append_drop]
  have e2 : i * 5 = (noc (l.take i)).length := by rw [noc_len, List.length_take, Nat.min_eq_left (by omega)]
  rw [e, List.getElem?_append_right (by omega), e2, Nat.add_sub_cancel_left, List.getElem?_append_left (by exact hj)]
theorem row_nop {H : SH} {a : Option (Nat × Nat)} {l : List NOp} {i : Nat} (hr : H.row a (noc l)) (h : i < l.length) : ∃ p, a = some p ∧ H.row (some (p.1, p.2 + i * 5)) l[i].c := by
  rcases hr with h0 | ⟨p, o, ha, hb, hh⟩
  · have := noc_len l
    rw [h0] at this
    simp at this; omega
  · refine ⟨p, ha, .inr ⟨_, o, rfl, hb, fun j u hu => ?_⟩⟩
    have hj : j < 5 := (List.getElem?_eq_some_iff.1 hu).1
    have := hh (i * 5 + j) u (by rw [noc_get h hj]; exact hu)
    simpa [Nat.add_assoc] using this
set_option maxRecDepth 100000 in
open Go.RowKit Go.ChangeShapes Go.WideShapes Go.ChangeAt Go.Deep in
theorem arg_nops {H : Type} {enc : TypeId × Value → H} {W : World} {base : Nat} {v : Value} {d : DataW H} {p : List MemPlace} (hval : Value.okWide Tryd.prog W .any base 22 v) (hd : DataW.Trod enc Tryd.prog W 0 (fun _ => true) true 22 v d p) :
    ∃ (l : Sl) (ops : List NOp), v = sv l ∧ l.len = ops.length ∧ l.len ≤ l.cap ∧ (SH.of W).row l.a (noc ops) ∧ ∀ o ∈ ops, 0 ≤ o.y ∧ o.y ≤ 255 := by
  obtain ⟨l, V, n, rfl, hl, hr, hx⟩ := arg_rowsG (c := 5) Tryd.underlying22 (by kernel_rfl) hval hd
  have each : ∀ i, i < l.len → ∃ o : NOp, (List.range 5).map (fun j => V (i * 5 + j)) = o.c ∧ (0 ≤ o.y ∧ o.y ≤ 255) := fun i hi => by
    obtain ⟨y, hy⟩ := hx i hi
    obtain ⟨xs, n', _, _, _, hxl, hf⟩ := DataW.trod_struct Tryd.underlying28 hy
    have e : (List.range 5).map (fun j => V (i * 5 + j)) = [V (i * 5), V (i * 5 + 1), V (i * 5 + 2), V (i * 5 + 3), V (i * 5 + 4)] := rfl
    rw [e] at hf ⊢
    have hl5 : xs.length = 5 := hxl
    have g0 := hf 0 _ rfl
    have g1 := hf 1 _ rfl
    have g2 := hf 2 _ rfl
    have g3 := hf 3 _ rfl
    have g4 := hf 4 _ rfl
    rw [List.getElem?_eq_getElem (by omega)] at g0 g1 g2 g3 g4
    have g0' : DataW.trod enc Tryd.prog W 0 (fun _ => true) true n' 3 [V (i * 5)] = some xs[0] := g0
    have g1' : DataW.trod enc Tryd.prog W 0 (fun _ => true) true n' 3 [V (i * 5 + 1)] = some xs[1] := g1
    have g2' : DataW.trod enc Tryd.prog W 0 (fun _ => true) true n' 3 [V (i * 5 + 2)] = some xs[2] := g2
    have g3' : DataW.trod enc Tryd.prog W 0 (fun _ => true) true n' 5 [V (i * 5 + 3)] = some xs[3] := g3
    have g4' : DataW.trod enc Tryd.prog W 0 (fun _ => true) true n' 9 [V (i * 5 + 4)] = some xs[4] := g4
    obtain ⟨a0, h0, _, _⟩ := DataW.trod_int Tryd.underlying3 g0'
    obtain ⟨a1, h1, _, _⟩ := DataW.trod_int Tryd.underlying3 g1'
    obtain ⟨a2, h2, _, _⟩ := DataW.trod_int Tryd.underlying3 g2'
    obtain ⟨a3, h3, _, w3⟩ := DataW.trod_int Tryd.underlying5 g3'
    obtain ⟨s4, h4, _, _⟩ := DataW.trod_string Tryd.underlying9 g4'
    simp only [List.cons.injEq, and_true] at h0 h1 h2 h3 h4
    exact ⟨⟨a0, a1, a2, a3, s4⟩, by rw [h0, h1, h2, h3, h4]; rfl, lit_range w3⟩
  obtain ⟨f, hf⟩ := choose_lt each
  refine ⟨l, (List.range l.len).map f, rfl, by simp, hl, ?_, fun o ho => ?_⟩
  · have e : noc ((List.range l.len).map f) = cellsF (l.len * 5) V := by
      have : ∀ m, m ≤ l.len → noc ((List.range m).map f) = cellsF (m * 5) V := by
        intro m
        induction m with
        | zero => intro _; rfl
        | succ m ih =>
          intro hm
          unfold noc at ih ⊢
          rw [List.range_succ, List.map_append, List.flatMap_append, ih (by omega)]
          have g1 := (hf m (by omega)).1
          simp only [List.map_cons, List.map_nil, List.flatMap_cons, List.flatMap_nil, List.append_nil, ← g1]
          have e7 : (List.range 5).map (fun j => V (m * 5 + j)) = [V (m * 5), V (m * 5 + 1), V (m * 5 + 2), V (m * 5 + 3), V (m * 5 + 4)] := rfl
          rw [e7]
          simp only [cellsF, show (m + 1) * 5 = m * 5 + 1 + 1 + 1 + 1 + 1 by omega, List.range_succ, List.map_append, List.map_cons, List.map_nil]
          simp
      exact this _ (Nat.le_refl _)
    rw [e]; exact hr
  · obtain ⟨i, hi, rfl⟩ := List.mem_map.1 ho
    exact (hf i (List.mem_range.1 hi)).2
theorem op_set {H : SH} {b : Nat} {a1 a2 a3 a4 c1 c2 c3 c4 : Int} {a5 c5 : ByteArray} : SH.setl (SH.upd H b ⟨[.int .i64 a1, .int .i64 a2, .int .i64 a3, .int .u8 a4, .string a5], 28, false, 5⟩) (b, 0) [.int .i64 c1, .int .i64 c2, .int .i64 c3, .int .u8 c4, .string c5] = SH.upd H b ⟨[.int .i64 c1, .int .i64 c2, .int .i64 c3, .int .u8 c4, .string c5], 28, false, 5⟩ := by
  rw [setl_upd]; rfl
def opO (o : NOp) : AO := ⟨o.c, 28, false, 5⟩
end Go.Proofs.YtkfbmoekghbgbaaDoor.K
