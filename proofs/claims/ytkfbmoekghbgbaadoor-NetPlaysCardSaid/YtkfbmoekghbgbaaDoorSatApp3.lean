/- A region that draws its order: append(append(append([]T{}, r[:t]...), *p), r[t:]...). -/
import Derived.Test.YtkfbmoekghbgbaaDoorSatInv
import Derived.Test.YtkfbmoekghbgbaaDoorLib4
set_option linter.unusedVariables false
set_option linter.unusedSimpArgs false
namespace Go.Proofs.YtkfbmoekghbgbaaDoor.K
open Go
/-- What it asks, and what it hands on. -/
def App3 (H : SH) (E : TypeId) (size bytes : Nat) (R : Sl) (t : Int) (p : Nat × Nat) (K : Sl → SH → Prop) : Prop :=
  ∃ csR csX, H.row R.a csR ∧ csR.length = R.len * size ∧ (∀ u ∈ csR, u.oneCell' = true) ∧ H.row (some p) csX ∧ csX.length = size ∧ (∀ u ∈ csX, u.oneCell' = true) ∧ 0 ≤ t ∧ t ≤ R.len ∧ R.len ≤ R.cap ∧ (R.len + 1) * bytes ≤ 140737488355328 ∧ R.len + 1 ≤ 9223372036854775807 ∧
    ∀ l3 H3, On (SlG E size l3 (csR.take (t.toNat * size) ++ (csX ++ csR.drop (t.toNat * size)))) H H3 → l3.len = R.len + 1 → K l3 H3
theorem App3.mono {H : SH} {E : TypeId} {size bytes : Nat} {R : Sl} {t : Int} {p : Nat × Nat} {K K' : Sl → SH → Prop} (h : App3 H E size bytes R t p K) (hk : ∀ l H', K l H' → K' l H') : App3 H E size bytes R t p K' := by
  obtain ⟨csR, csX, r1, r2, r3, r4, r5, r6, t1, t2, t3, b1, b2, h⟩ := h
  exact ⟨csR, csX, r1, r2, r3, r4, r5, r6, t1, t2, t3, b1, b2, fun l3 H3 h1 h2 => hk _ _ (h l3 H3 h1 h2)⟩
def app3L (t E : TypeId) (c : List Nat) (rt tt pt : Nat) (y : List TypeId) (s : List String) (a : List (Array Edge)) : List Oper :=
  [⟨some (c.getD 0 0), .buildSlice t 0 #[], y.getD 0 0, s.getD 0 "", a.getD 0 #[], none⟩,
   ⟨some (c.getD 1 0), .move (.tmp rt), y.getD 1 0, s.getD 1 "", a.getD 1 #[], none⟩,
   ⟨some (c.getD 2 0), .move (.tmp tt), y.getD 2 0, s.getD 2 "", a.getD 2 #[], none⟩,
   ⟨some (c.getD 3 0), .slice t (.tmp (c.getD 1 0)) none (some (.tmp (c.getD 2 0))) none, y.getD 3 0, s.getD 3 "", a.getD 3 #[], none⟩,
   ⟨some (c.getD 4 0), .call { callee := .builtin .append, args := #[.tmp (c.getD 0 0), .tmp (c.getD 3 0)], argTypes := #[t, t] }, y.getD 4 0, s.getD 4 "", a.getD 4 #[], none⟩,
   ⟨some (c.getD 5 0), .load E (.tmp pt), y.getD 5 0, s.getD 5 "", a.getD 5 #[], none⟩,
   ⟨some (c.getD 6 0), .buildSlice t 1 #[(0, .tmp (c.getD 5 0))], y.getD 6 0, s.getD 6 "", a.getD 6 #[], none⟩,
   ⟨some (c.getD 7 0), .call { callee := .builtin .append, args := #[.tmp (c.getD 4 0), .tmp (c.getD 6 0)], argTypes := #[t, t] }, y.getD 7 0, s.getD 7 "", a.getD 7 #[], none⟩,
   ⟨some (c.getD 8 0), .move (.tmp rt), y.getD 8 0, s.getD 8 "", a.getD 8 #[], none⟩,
   ⟨some (c.getD 9 0), .move (.tmp tt), y.getD 9 0, s.getD 9 "", a.getD 9 #[], none⟩,
   ⟨some (c.getD 10 0), .slice t (.tmp (c.getD 8 0)) (some (.tmp (c.getD 9 0))) none none, y.getD 10 0, s.getD 10 "", a.getD 10 #[], none⟩,
   ⟨some (c.getD 11 0), .call { callee := .builtin .append, args := #[.tmp (c.getD 7 0), .tmp (c.getD 10 0)], argTypes := #[t, t] }, y.getD 11 0, s.getD 11 "", a.getD 11 #[], none⟩,
   ⟨some (c.getD 12 0), .assign (.tmp (c.getD 11 0)), y.getD 12 0, s.getD 12 "", a.getD 12 #[], none⟩]
def app3D : List (Nat × Nat) := [(3, 1), (3, 2), (4, 0), (4, 3), (6, 5), (7, 4), (7, 6), (10, 8), (10, 9), (11, 7), (11, 10), (12, 11)]
def app3B (n : Nat) (l : List Oper) (c : List Nat) (rt tt pt : Nat) : Bool :=
  invB l && app3D.all (fun x => depB l x.1 x.2) && decide (c.length = 13) && c.all (fun x => decide (x < n)) && decide (rt < n) && decide (tt < n) && decide (pt < n) && !c.contains rt && !c.contains tt && !c.contains pt &&
  (List.range 13).all fun i => (List.range 13).all fun j => decide (i = j) || decide (c.getD i 0 ≠ c.getD j 0)
def accS {α : Type} (L : Nat → Bool) (x0 x1 x2 x3 : α) : Option (Nat × α) :=
  bif L 12 then some (12, x3) else bif L 11 then some (11, x3) else bif L 7 then some (7, x2) else bif L 4 then some (4, x1) else bif L 0 then some (0, x0) else none
def AccI (E : TypeId) (size : Nat) (c : List Nat) (fr : Fr) : Option (Nat × (List Value × Nat)) → Pr
  | none => Emp
  | some (i, cs, m) => fun H fp => ∃ l, (fr (c.getD i 0) = sv l ∧ l.len = m) ∧ SlG E size l cs H fp
def LitI (E : TypeId) (c : List Nat) (fr : Fr) (csX : List Value) : Bool → Pr
  | false => Emp
  | true => fun H fp => ∃ b, fr (c.getD 6 0) = sv ⟨some (b, 0), 1, 1⟩ ∧ Blk b ⟨csX, E, false, csX.length⟩ H fp
theorem Loc.acc {E : TypeId} {size : Nat} {c : List Nat} {fr : Fr} : ∀ {o : Option (Nat × (List Value × Nat))}, Loc (AccI E size c fr o)
  | none => .emp
  | some (i, cs, m) => ⟨fun ⟨l, h1, h2⟩ hh => ⟨l, h1, Loc.slg.loc h2 hh⟩, fun ⟨l, h1, h2⟩ hb => Loc.slg.in_ h2 hb⟩
theorem Loc.lit {E : TypeId} {c : List Nat} {fr : Fr} {csX : List Value} : ∀ {q : Bool}, Loc (LitI E c fr csX q)
  | false => .emp
  | true => ⟨fun ⟨l, h1, h2⟩ hh => ⟨l, h1, Loc.blk.loc h2 hh⟩, fun ⟨l, h1, h2⟩ hb => Loc.blk.in_ h2 hb⟩
theorem On.emp {H0 H : SH} (h : SH.le H0 H) : On Emp H0 H := ⟨h, fun _ => False, fun _ h => h, fun _ h => h.elim⟩
structure A3 (H : SH) (E : TypeId) (size : Nat) (c : List Nat) (fr : Fr) (F : Nat → Value → Prop) (x0 x1 x2 x3 : List Value × Nat) (csX : List Value) (L : Nat → Bool) (fr' : Fr) (H' : SH) : Prop where
  src : ∀ x, c.contains x = false → fr' x = fr x
  fact : ∀ i, L i = true → F i (fr' (c.getD i 0))
  c4 : L 4 = true → L 0 = true
  c7 : L 7 = true → L 4 = true ∧ L 6 = true
  c11 : L 11 = true → L 7 = true
  c12 : L 12 = true → L 11 = true
  heap : ∃ H1, On (AccI E size c fr' (accS L x0 x1 x2 x3)) H1 H' ∧ On (LitI E c fr' csX (L 6 && !L 7)) H H1
section
variable {H : SH} {E : TypeId} {size : Nat} {c : List Nat} {fr : Fr} {F : Nat → Value → Prop} {x0 x1 x2 x3 : List Value × Nat} {csX : List Value} {L : Nat → Bool} {fr' : Fr} {H' : SH}
theorem A3.le (h : A3 H E size c fr F x0 x1 x2 x3 csX L fr' H') : SH.le H H' := by
  obtain ⟨H1, h1, h2⟩ := h.heap
  exact h2.le.trans h1.le
theorem upd_slot {i j : Nat} {v : Value} (hd : ∀ i j, i < 13 → j < 13 → i ≠ j → c.getD i 0 ≠ c.getD j 0) (hi : i < 13) (hj : j < 13) (hne : j ≠ i) : (fr'.upd (c.getD i 0) v) (c.getD j 0) = fr' (c.getD j 0) := upd_else (hd j i hj hi hne)
theorem AccI.upd {i : Nat} {v : Value} (hd : ∀ i j, i < 13 → j < 13 → i ≠ j → c.getD i 0 ≠ c.getD j 0) (hi : i < 13) : ∀ {o : Option (Nat × (List Value × Nat))}, (∀ k x, o = some (k, x) → k < 13 ∧ k ≠ i) → AccI E size c (fr'.upd (c.getD i 0) v) o = AccI E size c fr' o
  | none, _ => rfl
  | some (k, cs, m), h => by
    obtain ⟨h1, h2⟩ := h k _ rfl
    show (fun (H : SH) (fp : Nat → Prop) => ∃ l, ((fr'.upd (c.getD i 0) v) (c.getD k 0) = sv l ∧ l.len = m) ∧ SlG E size l cs H fp) = fun (H : SH) (fp : Nat → Prop) => ∃ l, (fr' (c.getD k 0) = sv l ∧ l.len = m) ∧ SlG E size l cs H fp
    rw [show (fr'.upd (c.getD i 0) v) (c.getD k 0) = fr' (c.getD k 0) from upd_slot hd hi h1 h2]
theorem accS_lt {α : Type} {y0 y1 y2 y3 : α} {k : Nat} {x : α} (h : accS L y0 y1 y2 y3 = some (k, x)) : k < 13 ∧ L k = true := by
  unfold accS at h
  cases h12 : L 12 <;> cases h11 : L 11 <;> cases h7 : L 7 <;> cases h4 : L 4 <;> cases h0 : L 0 <;> simp [h12, h11, h7, h4, h0] at h <;> (obtain ⟨rfl, _⟩ := h; exact ⟨by omega, by assumption⟩)
theorem LitI.upd {i : Nat} {v : Value} {q : Bool} (hd : ∀ i j, i < 13 → j < 13 → i ≠ j → c.getD i 0 ≠ c.getD j 0) (hi : i < 13) (hne : i ≠ 6) : LitI E c (fr'.upd (c.getD i 0) v) csX q = LitI E c fr' csX q := by
  cases q with
  | false => rfl
  | true => unfold LitI; rw [upd_slot hd hi (by omega) (Ne.symm hne)]
/-- A step. -/
theorem A3.step (h : A3 H E size c fr F x0 x1 x2 x3 csX L fr' H') (hd : ∀ i j, i < 13 → j < 13 → i ≠ j → c.getD i 0 ≠ c.getD j 0) (hc : c.length = 13) (hF : ∀ j, 13 ≤ j → ∀ v, F j v) {i : Nat} {v : Value} {H'' : SH} (hi : i < 13) (hf : F i v) {L' : Nat → Bool} (h1 : L' i = true) (h2 : ∀ j, j ≠ i → L' j = L j)
    (k4 : L' 4 = true → L' 0 = true) (k7 : L' 7 = true → L' 4 = true ∧ L' 6 = true) (k11 : L' 11 = true → L' 7 = true) (k12 : L' 12 = true → L' 11 = true)
    (hh : ∃ H1, On (AccI E size c (fr'.upd (c.getD i 0) v) (accS L' x0 x1 x2 x3)) H1 H'' ∧ On (LitI E c (fr'.upd (c.getD i 0) v) csX (L' 6 && !L' 7)) H H1) :
    A3 H E size c fr F x0 x1 x2 x3 csX L' (fr'.upd (c.getD i 0) v) H'' := by
  refine ⟨fun x hx => ?_, fun j hj => ?_, k4, k7, k11, k12, hh⟩
  · have : x ≠ c.getD i 0 := by
      rintro rfl
      have hm : c.contains (c.getD i 0) = true := by
        have e : c.getD i 0 = c[i]'(by omega) := by simp [List.getD, List.getElem?_eq_getElem (show i < c.length by omega)]
        rw [e]; exact List.contains_iff_mem.2 (List.getElem_mem _)
      rw [hm] at hx; cases hx
    rw [upd_else this]; exact h.src x hx
  · by_cases hji : j = i
    · subst hji; rw [upd_self]; exact hf
    · rw [h2 j hji] at hj
      rcases Nat.lt_or_ge j 13 with h13 | h13
      · rw [upd_slot hd hi h13 hji]; exact h.fact j hj
      · exact hF j h13 _
/-- One that makes a value only. -/
theorem A3.val (h : A3 H E size c fr F x0 x1 x2 x3 csX L fr' H') (hd : ∀ i j, i < 13 → j < 13 → i ≠ j → c.getD i 0 ≠ c.getD j 0) (hc : c.length = 13) (hF : ∀ j, 13 ≤ j → ∀ v, F j v) {i : Nat} {v : Value} (hi : i < 13) (hn : i ≠ 0 ∧ i ≠ 4 ∧ i ≠ 6 ∧ i ≠ 7 ∧ i ≠ 11 ∧ i ≠ 12) (hLi : L i = false) (hf : F i v) {L' : Nat → Bool} (h1 : L' i = true) (h2 : ∀ j, j ≠ i → L' j = L j) :
    A3 H E size c fr F x0 x1 x2 x3 csX L' (fr'.upd (c.getD i 0) v) H' := by
  obtain ⟨n0, n4, n6, n7, n11, n12⟩ := hn
  refine h.step hd hc hF hi hf h1 h2 ?_ ?_ ?_ ?_ ?_
  · rw [h2 4 (by omega), h2 0 (by omega)]; exact h.c4
  · rw [h2 7 (by omega), h2 4 (by omega), h2 6 (by omega)]; exact h.c7
  · rw [h2 11 (by omega), h2 7 (by omega)]; exact h.c11
  · rw [h2 12 (by omega), h2 11 (by omega)]; exact h.c12
  · have e : accS L' x0 x1 x2 x3 = accS L x0 x1 x2 x3 := by unfold accS; rw [h2 12 (by omega), h2 11 (by omega), h2 7 (by omega), h2 4 (by omega), h2 0 (by omega)]
    rw [e, h2 6 (by omega), h2 7 (by omega), LitI.upd hd hi n6, AccI.upd hd hi fun k x hk => ⟨(accS_lt hk).1, fun hki => by have := (accS_lt hk).2; rw [hki, hLi] at this; cases this⟩]
    exact h.heap
end
def app3F (size : Nat) (R : Sl) (ti : Int) (csX : List Value) : Nat → Value → Prop
  | 1, v => v = sv R
  | 2, v => v = .int .i64 ti
  | 3, v => v = sv (Sl.sub size R 0 ti.toNat R.cap)
  | 5, v => v = .agg csX.toArray
  | 8, v => v = sv R
  | 9, v => v = .int .i64 ti
  | 10, v => v = sv (Sl.sub size R ti.toNat R.len R.cap)
  | _, _ => True
theorem app3F_hi {size : Nat} {R : Sl} {ti : Int} {csX : List Value} {j : Nat} (h : 13 ≤ j) (v : Value) : app3F size R ti csX j v := by
  unfold app3F
  split <;> first | omega | trivial
theorem evF_lt {n : Nat} {fr : Fr} {x : Nat} (h : x < n) : evF n fr (.tmp x) = fr x := by
  unfold evF
  have hb : Nat.blt x n = true := by simpa [Nat.blt_eq] using h
  simp only [hb, cond_true]
theorem SW.app3 {P : Program} {n : Nat} {fr : Fr} {H : SH} {Q : Post} {id : Nat} {t E : TypeId} {c : List Nat} {rt tt pt : Nat} {l : List Oper} (hl : l = app3L t E c rt tt pt (l.map (·.type)) (l.map (·.pos)) (l.map (·.after))) (hm : P.follows .mixedOrders = true) (hB : app3B n l c rt tt pt = true)
    (ht : P.underlying t = some (.slice E)) {size bytes : Nat} {z : Value} (hi : (P.info? E).map (fun i => (i.zero, i.size, i.bytes)) = some (some z, size, bytes)) (hzs : z.cells.size = size) (hA : ∀ w, (isAgg E).run P w = .ok true w) {R : Sl} {ti : Int} {p : Nat × Nat} (hR : fr rt = sv R) (hT : fr tt = .int .i64 ti) (hp : fr pt = pv (some p))
    (hl0 : ∀ w, (Instr.buildSlice t 0 #[]).run P w = (newRow E #[] >>= fun a => pure (.slice (some a) 0 0) : Sem Value).run P w)
    (hl1 : ∀ csX : List Value, csX.length = size → ∀ w, (Instr.buildSlice t 1 #[(0, .agg csX.toArray)]).run P w = (newRow E csX.toArray >>= fun a => pure (.slice (some a) 1 1) : Sem Value).run P w)
    (h : App3 H E size bytes R ti p fun l3 H3 => ∀ g : Fr, (∀ x, c.contains x = false → g x = fr x) → g (c.getD 12 0) = sv l3 → Q .normal g H3) : SW P n (.region id l.toArray true) fr H Q := by
  obtain ⟨csR, csX, r1, r2, r3, r4, r5, r6, t1, t2, t3, b1, b2, hk⟩ := h
  unfold app3B at hB
  simp only [Bool.and_eq_true, decide_eq_true_eq, List.all_eq_true, Bool.not_eq_true', List.mem_range, Bool.or_eq_true] at hB
  obtain ⟨⟨⟨⟨⟨⟨⟨⟨⟨⟨i1, i2⟩, i3⟩, i4⟩, i5⟩, i6⟩, i7⟩, i8⟩, i9⟩, i10⟩, i11⟩ := hB
  have hd : ∀ i j, i < 13 → j < 13 → i ≠ j → c.getD i 0 ≠ c.getD j 0 := fun i j hi hj hne => (i11 i hi j hj).resolve_left hne
  have hcn : ∀ i, i < 13 → c.getD i 0 < n := fun i hi => by
    have e : c.getD i 0 = c[i]'(by omega) := by simp [List.getD, List.getElem?_eq_getElem (show i < c.length by omega)]
    rw [e]; exact i4 _ (List.getElem_mem _)
  have hdep : ∀ (x y : Nat), (x, y) ∈ app3D → depB l x y = true := fun x y hxy => i2 (x, y) hxy
  obtain ⟨inf, hinf, hinf2⟩ := Option.map_eq_some_iff.1 hi
  simp only [Prod.mk.injEq] at hinf2
  have hs : (P.info? E).map (·.size) = some size := by rw [hinf]; simp [hinf2.2.1]
  obtain ⟨tn, rfl⟩ := Int.eq_ofNat_of_zero_le t1
  have htn : tn ≤ R.len := by omega
  have hts : tn * size ≤ R.len * size := Nat.mul_le_mul_right _ htn
  simp only [Int.toNat_natCast] at hk
  let x0 : List Value × Nat := ([], 0)
  let x1 : List Value × Nat := (csR.take (tn * size), tn)
  let x2 : List Value × Nat := (csR.take (tn * size) ++ csX, tn + 1)
  let x3 : List Value × Nat := (csR.take (tn * size) ++ (csX ++ csR.drop (tn * size)), R.len + 1)
  have hlen : l.length = 13 := by rw [hl]; rfl
  refine SW.inv hm i1 (fun L fr' H' => A3 H E size c fr (app3F size R (tn : Int) csX) x0 x1 x2 x3 csX L fr' H') (fun L hL => ?_) (fun i o ho L fr' H' hLi hLd inv => ?_) (fun L fr' H' hL inv => ?_)
  · refine ⟨fun _ _ => rfl, fun i hi => (by rw [hL] at hi; cases hi), fun h => (by rw [hL] at h; cases h), fun h => (by rw [hL] at h; cases h), fun h => (by rw [hL] at h; cases h), fun h => (by rw [hL] at h; cases h), H, ?_, ?_⟩
    · simp only [accS, hL, cond_false]; exact On.emp (.refl _)
    · simp only [hL, Bool.false_and]; exact On.emp (.refl _)
  · have hi13 : i < 13 := by have := (List.getElem?_eq_some_iff.1 ho).1; omega
    have hle := inv.le
    have src : ∀ x, c.contains x = false → x < n → evF n fr' (.tmp x) = fr x := fun x h1 h2 => by rw [evF_lt h2]; exact inv.src x h1
    have got : ∀ j, j < 13 → L j = true → app3F size R (tn : Int) csX j (evF n fr' (.tmp (c.getD j 0))) := fun j hj hLj => by rw [evF_lt (hcn j hj)]; exact inv.fact j hLj
    have need : ∀ j, (i, j) ∈ app3D → L j = true := fun j hj => hLd j (hdep i j hj)
    have hF : ∀ j, 13 ≤ j → ∀ v, app3F size R (tn : Int) csX j v := fun j hj v => app3F_hi hj v
    have bnd1 : (tn + 1) * bytes ≤ 140737488355328 := Nat.le_trans (Nat.mul_le_mul_right _ (by omega)) b1
    have bnd0 : tn * bytes ≤ 140737488355328 := Nat.le_trans (Nat.mul_le_mul_right _ (by omega)) b1
    have rowA : H'.row (Sl.sub size R 0 tn R.cap).a (csR.take (tn * size)) := by
      have := row_subG (size := size) (m := R.cap) r1 (Nat.zero_le tn) (by omega : tn ≤ R.cap)
      rw [Nat.zero_mul, List.drop_zero] at this
      exact this.le hle
    have rowB : H'.row (Sl.sub size R tn R.len R.cap).a (csR.drop (tn * size)) := by
      have := row_subG (size := size) (m := R.cap) r1 htn t3
      rw [List.take_of_length_le (by rw [r2]; exact Nat.le_refl _)] at this
      exact this.le hle
    -- a step that makes a value only
    have vl : ∀ {v : Value}, i ≠ 0 ∧ i ≠ 4 ∧ i ≠ 6 ∧ i ≠ 7 ∧ i ≠ 11 ∧ i ≠ 12 → o.dst = some (c.getD i 0) → o.guard = none → app3F size R (tn : Int) csX i v → (∀ w, Sat H' w → (execOp (evF n fr') o).run P w = .ok (.value v) w) → SOps P n l.toArray [o] fr' H' (invQ (fun L fr' H' => A3 H E size c fr (app3F size R (tn : Int) csX) x0 x1 x2 x3 csX L fr' H') L i) := fun hn hdst hgd hf hx =>
      SOps.rd hdst (by unfold wantF; rw [hgd]) hx (SOps.nil ⟨rfl, fun L' h1 h2 => inv.val hd i3 hF hi13 hn hLi hf h1 h2⟩)
    have ho : (app3L t E c rt tt pt (l.map (·.type)) (l.map (·.pos)) (l.map (·.after)))[i]? = some o := by rw [← hl]; exact ho
    rcases i with _ | _ | _ | _ | _ | _ | _ | _ | _ | _ | _ | _ | _ | i
    · -- 0
      obtain rfl := Option.some.inj ho
      have h4 : L 4 = false := by cases h : L 4 with | false => rfl | true => rw [inv.c4 h] at hLi; cases hLi
      have h7 : L 7 = false := by cases h : L 7 with | false => rfl | true => rw [(inv.c7 h).1] at h4; cases h4
      have h11 : L 11 = false := by cases h : L 11 with | false => rfl | true => rw [inv.c11 h] at h7; cases h7
      have h12 : L 12 = false := by cases h : L 12 with | false => rfl | true => rw [inv.c12 h] at h11; cases h11
      refine SOps.lit (E := E) (cs := #[]) rfl rfl rfl (fun w => by simpa using hl0 w) fun b hb => SOps.nil ⟨rfl, fun L' g1 g2 => ?_⟩
      have q4 := (g2 4 (by omega)).trans h4
      have q7 := (g2 7 (by omega)).trans h7
      have q11 := (g2 11 (by omega)).trans h11
      have q12 := (g2 12 (by omega)).trans h12
      refine inv.step hd i3 hF hi13 trivial g1 g2 (fun _ => g1) (fun h => by rw [q7] at h; cases h) (fun h => by rw [q11] at h; cases h) (fun h => by rw [q12] at h; cases h) ?_
      obtain ⟨H1, hh1, hh2⟩ := inv.heap
      have e : accS L' x0 x1 x2 x3 = some (0, x0) := by unfold accS; simp [q4, q7, q11, q12, g1]
      rw [e, g2 6 (by omega), g2 7 (by omega), LitI.upd hd hi13 (by omega)]
      refine ⟨H', ?_, On.above Loc.lit hh2 hh1.le⟩
      have on : On (SlG E size ⟨some (b, 0), 0, 0⟩ []) H' (H'.upd b ⟨(#[] : Array Value).toList, E, false, (#[] : Array Value).size⟩) := On.mkG (b := b) (pre := []) (post := []) (sz := 0) (le_upd hb) (by simp) rfl (Nat.le_refl _) hb (by rw [SH.upd_same]; rfl) (by simp)
      obtain ⟨o1, fp, o2, o3⟩ := on
      exact ⟨o1, fp, ⟨_, ⟨upd_self _ _ _, rfl⟩, o2⟩, o3⟩
    · obtain rfl := Option.some.inj ho
      exact vl (by omega) rfl rfl rfl fun w _ => by unfold execOp; simp [src rt i8 i5, hR]
    · obtain rfl := Option.some.inj ho
      exact vl (by omega) rfl rfl rfl fun w _ => by unfold execOp; simp [src tt i9 i6, hT]
    · obtain rfl := Option.some.inj ho
      have e1 := got 1 (by omega) (need 1 (by decide))
      have e2 := got 2 (by omega) (need 2 (by decide))
      exact vl (v := sv (Sl.sub size R 0 tn R.cap)) (by omega) rfl rfl rfl fun w _ => ev_sub (lo := none) (hi := some (.tmp (c.getD 2 0))) (a := 0) (b := (tn : Int)) rfl ht hs e1 (.inl ⟨rfl, rfl⟩) (.inr ⟨.i64, congrArg some e2⟩) (by omega) (by omega) (by omega) w
    · -- 4
      obtain rfl := Option.some.inj ho
      have n0 := need 0 (by decide)
      have h7 : L 7 = false := by cases h : L 7 with | false => rfl | true => rw [(inv.c7 h).1] at hLi; cases hLi
      have h11 : L 11 = false := by cases h : L 11 with | false => rfl | true => rw [inv.c11 h] at h7; cases h7
      have h12 : L 12 = false := by cases h : L 12 with | false => rfl | true => rw [inv.c12 h] at h11; cases h11
      have e3 := got 3 (by omega) (need 3 (by decide))
      obtain ⟨H1, hh1, hh2⟩ := inv.heap
      have e : accS L x0 x1 x2 x3 = some (0, x0) := by unfold accS; simp [n0, h7, h11, h12, hLi]
      rw [e] at hh1
      obtain ⟨o1, fp, ⟨l0, ⟨q1, q2⟩, q3⟩, o3⟩ := hh1
      have on : On (SlG E size l0 []) H1 H' := ⟨o1, fp, q3, o3⟩
      refine SOps.append (x := sv (Sl.sub size R 0 tn R.cap)) (m := tn) (news := csR.take (tn * size)) rfl rfl rfl ht hi hzs ((evF_lt (hcn 0 (by omega))).trans q1) e3 (.inl ⟨⟨_, ht⟩, _, rfl, by simp [Sl.sub], rowA⟩) (on.appendG (by rw [show l0.len = 0 from q2, Nat.zero_add]; exact bnd0) (by rw [show l0.len = 0 from q2]; omega) (by rw [List.length_take, r2]; omega) (fun u hu => r3 u (List.mem_of_mem_take hu)) fun l1 H2 on2 hl1 => SOps.nil ⟨rfl, fun L' g1 g2 => ?_⟩)
      have q7 := (g2 7 (by omega)).trans h7
      have q11 := (g2 11 (by omega)).trans h11
      have q12 := (g2 12 (by omega)).trans h12
      have q0 := (g2 0 (by omega)).trans n0
      refine inv.step hd i3 hF hi13 trivial g1 g2 (fun _ => q0) (fun h => by rw [q7] at h; cases h) (fun h => by rw [q11] at h; cases h) (fun h => by rw [q12] at h; cases h) ?_
      have e : accS L' x0 x1 x2 x3 = some (4, x1) := by unfold accS; simp [q7, q11, q12, g1]
      rw [e, g2 6 (by omega), g2 7 (by omega), LitI.upd hd hi13 (by omega)]
      obtain ⟨w1, fp2, w2, w3⟩ := on2
      exact ⟨H1, ⟨w1, fp2, ⟨l1, ⟨upd_self _ _ _, by rw [hl1, show l0.len = 0 from q2, Nat.zero_add]⟩, w2⟩, w3⟩, hh2⟩
    · obtain rfl := Option.some.inj ho
      exact vl (by omega) rfl rfl rfl fun w hw => ev_loadN rfl hA hs ((src pt i10 i7).trans hp) r5 (r4.le hle) w hw
    · -- 6
      obtain rfl := Option.some.inj ho
      have h7 : L 7 = false := by cases h : L 7 with | false => rfl | true => rw [(inv.c7 h).2] at hLi; cases hLi
      have e5 := got 5 (by omega) (need 5 (by decide))
      refine SOps.lit (E := E) (cs := csX.toArray) rfl rfl rfl (fun w => by
        have := hl1 csX r5 w
        have e5' : evF n fr' (.tmp (c.getD 5 0)) = .agg csX.toArray := e5
        simp only [List.map_toArray, List.map_cons, List.map_nil]
        rw [e5']; exact this) fun b hb => SOps.nil ⟨rfl, fun L' g1 g2 => ?_⟩
      have q7 := (g2 7 (by omega)).trans h7
      refine inv.step hd i3 hF hi13 trivial g1 g2 (by rw [g2 4 (by omega), g2 0 (by omega)]; exact inv.c4) (fun h => by rw [q7] at h; cases h) (by rw [g2 11 (by omega), g2 7 (by omega)]; exact inv.c11) (by rw [g2 12 (by omega), g2 11 (by omega)]; exact inv.c12) ?_
      obtain ⟨H1, hh1, hh2⟩ := inv.heap
      have e : accS L' x0 x1 x2 x3 = accS L x0 x1 x2 x3 := by unfold accS; rw [g2 12 (by omega), g2 11 (by omega), g2 7 (by omega), g2 4 (by omega), g2 0 (by omega)]
      have e2 : (L' 6 && !L' 7) = true := by rw [show L' 6 = true from g1, q7]; rfl
      rw [e, e2, AccI.upd hd hi13 fun k x hk => ⟨(accS_lt hk).1, fun hki => by have := (accS_lt hk).2; rw [hki, hLi] at this; cases this⟩]
      obtain ⟨H2, w1, w2⟩ := On.swap .blk Loc.acc (On.new (o := ⟨csX.toArray.toList, E, false, csX.toArray.size⟩) hb) hh1
      refine ⟨H2, w1, ?_⟩
      obtain ⟨v1, fp, v2, v3⟩ := w2.below hh2.le
      exact ⟨v1, fp, ⟨b, upd_self _ _ _, by simpa using v2⟩, v3⟩
    · -- 7
      obtain rfl := Option.some.inj ho
      have n4 := need 4 (by decide)
      have n6 := need 6 (by decide)
      have h11 : L 11 = false := by cases h : L 11 with | false => rfl | true => rw [inv.c11 h] at hLi; cases hLi
      have h12 : L 12 = false := by cases h : L 12 with | false => rfl | true => rw [inv.c12 h] at h11; cases h11
      obtain ⟨H1, hh1, hh2⟩ := inv.heap
      have e : accS L x0 x1 x2 x3 = some (4, x1) := by unfold accS; simp [n4, h11, h12, hLi]
      have e2 : (L 6 && !L 7) = true := by rw [n6, hLi]; rfl
      rw [e] at hh1
      rw [e2] at hh2
      obtain ⟨o1, fp, ⟨l1, ⟨q1, q2⟩, q3⟩, o3⟩ := hh1
      have on : On (SlG E size l1 (csR.take (tn * size))) H1 H' := ⟨o1, fp, q3, o3⟩
      obtain ⟨v1, fp2, ⟨b, v2, v3⟩, v4⟩ := hh2
      have hbX : H' b = some ⟨csX, E, false, csX.length⟩ := o1 _ _ v3.1
      have rowX : H'.row (some (b, 0)) csX := .inr ⟨(b, 0), _, rfl, hbX, fun j u hu => by rw [Nat.zero_add]; exact hu⟩
      refine SOps.append (x := sv ⟨some (b, 0), 1, 1⟩) (m := 1) (news := csX) rfl rfl rfl ht hi hzs ((evF_lt (hcn 4 (by omega))).trans q1) ((evF_lt (hcn 6 (by omega))).trans v2) (.inl ⟨⟨_, ht⟩, _, rfl, rfl, rowX⟩) (on.appendG (by rw [show l1.len = tn from q2]; exact bnd1) (by rw [show l1.len = tn from q2]; omega) (by rw [r5, Nat.one_mul]) r6 fun l2 H2 on2 hl2 => SOps.nil ⟨rfl, fun L' g1 g2 => ?_⟩)
      have q11 := (g2 11 (by omega)).trans h11
      have q12 := (g2 12 (by omega)).trans h12
      have q4 := (g2 4 (by omega)).trans n4
      have q6 := (g2 6 (by omega)).trans n6
      refine inv.step hd i3 hF hi13 trivial g1 g2 (by rw [g2 4 (by omega), g2 0 (by omega)]; exact inv.c4) (fun _ => ⟨q4, q6⟩) (fun h => by rw [q11] at h; cases h) (fun h => by rw [q12] at h; cases h) ?_
      have e : accS L' x0 x1 x2 x3 = some (7, x2) := by unfold accS; simp [q11, q12, g1]
      have e2 : (L' 6 && !L' 7) = false := by rw [show L' 7 = true from g1]; simp
      rw [e, e2]
      obtain ⟨w1, fp2, w2, w3⟩ := on2
      exact ⟨H1, ⟨w1, fp2, ⟨l2, ⟨upd_self _ _ _, by rw [hl2, show l1.len = tn from q2]⟩, w2⟩, w3⟩, On.emp v1⟩
    · obtain rfl := Option.some.inj ho
      exact vl (by omega) rfl rfl rfl fun w _ => by unfold execOp; simp [src rt i8 i5, hR]
    · obtain rfl := Option.some.inj ho
      exact vl (by omega) rfl rfl rfl fun w _ => by unfold execOp; simp [src tt i9 i6, hT]
    · obtain rfl := Option.some.inj ho
      have e1 := got 8 (by omega) (need 8 (by decide))
      have e2 := got 9 (by omega) (need 9 (by decide))
      exact vl (v := sv (Sl.sub size R tn R.len R.cap)) (by omega) rfl rfl rfl fun w _ => ev_sub (lo := some (.tmp (c.getD 9 0))) (hi := none) (a := (tn : Int)) (b := (R.len : Int)) rfl ht hs e1 (.inr ⟨.i64, congrArg some e2⟩) (.inl ⟨rfl, rfl⟩) (by omega) (by omega) (by omega) w
    · -- 11
      obtain rfl := Option.some.inj ho
      have n7 := need 7 (by decide)
      have h12 : L 12 = false := by cases h : L 12 with | false => rfl | true => rw [inv.c12 h] at hLi; cases hLi
      have e10 := got 10 (by omega) (need 10 (by decide))
      obtain ⟨H1, hh1, hh2⟩ := inv.heap
      have e : accS L x0 x1 x2 x3 = some (7, x2) := by unfold accS; simp [n7, h12, hLi]
      rw [e] at hh1
      obtain ⟨o1, fp, ⟨l2, ⟨q1, q2⟩, q3⟩, o3⟩ := hh1
      have on : On (SlG E size l2 (csR.take (tn * size) ++ csX)) H1 H' := ⟨o1, fp, q3, o3⟩
      have e2 : l2.len + (R.len - tn) = R.len + 1 := by rw [show l2.len = tn + 1 from q2]; omega
      refine SOps.append (x := sv (Sl.sub size R tn R.len R.cap)) (m := R.len - tn) (news := csR.drop (tn * size)) rfl rfl rfl ht hi hzs ((evF_lt (hcn 7 (by omega))).trans q1) e10 (.inl ⟨⟨_, ht⟩, _, rfl, rfl, rowB⟩) (on.appendG (by rw [e2]; exact b1) (by rw [e2]; exact b2) (by rw [List.length_drop, r2, Nat.sub_mul]) (fun u hu => r3 u (List.mem_of_mem_drop hu)) fun l3 H2 on2 hl3 => SOps.nil ⟨rfl, fun L' g1 g2 => ?_⟩)
      have q12 := (g2 12 (by omega)).trans h12
      have q7 := (g2 7 (by omega)).trans n7
      refine inv.step hd i3 hF hi13 trivial g1 g2 (by rw [g2 4 (by omega), g2 0 (by omega)]; exact inv.c4) (by rw [g2 7 (by omega), g2 4 (by omega), g2 6 (by omega)]; exact inv.c7) (fun _ => q7) (fun h => by rw [q12] at h; cases h) ?_
      have e : accS L' x0 x1 x2 x3 = some (11, x3) := by unfold accS; simp [q12, g1]
      rw [e, g2 6 (by omega), g2 7 (by omega), LitI.upd hd hi13 (by omega)]
      obtain ⟨w1, fp2, w2, w3⟩ := on2
      rw [List.append_assoc] at w2
      exact ⟨H1, ⟨w1, fp2, ⟨l3, ⟨upd_self _ _ _, by rw [hl3, e2]⟩, w2⟩, w3⟩, hh2⟩
    · -- 12
      obtain rfl := Option.some.inj ho
      have n11 := need 11 (by decide)
      obtain ⟨H1, hh1, hh2⟩ := inv.heap
      have e : accS L x0 x1 x2 x3 = some (11, x3) := by unfold accS; simp [n11, hLi]
      rw [e] at hh1
      obtain ⟨o1, fp, ⟨l3, ⟨q1, q2⟩, q3⟩, o3⟩ := hh1
      have q1' : evF n fr' (.tmp (c.getD 11 0)) = sv l3 := (evF_lt (hcn 11 (by omega))).trans q1
      refine SOps.val (v := sv l3) rfl rfl (fun w => by
        unfold execOp
        simp only []
        rw [q1']; rfl) (SOps.nil ⟨rfl, fun L' g1 g2 => ?_⟩)
      have q11 := (g2 11 (by omega)).trans n11
      refine inv.step hd i3 hF hi13 trivial g1 g2 (by rw [g2 4 (by omega), g2 0 (by omega)]; exact inv.c4) (by rw [g2 7 (by omega), g2 4 (by omega), g2 6 (by omega)]; exact inv.c7) (by rw [g2 11 (by omega), g2 7 (by omega)]; exact inv.c11) (fun _ => q11) ?_
      have e : accS L' x0 x1 x2 x3 = some (12, x3) := by unfold accS; simp [g1]
      rw [e, g2 6 (by omega), g2 7 (by omega), LitI.upd hd hi13 (by omega)]
      exact ⟨H1, ⟨o1, fp, ⟨l3, ⟨upd_self _ _ _, q2⟩, q3⟩, o3⟩, hh2⟩
    · omega
  · obtain ⟨H1, hh1, hh2⟩ := inv.heap
    have e : accS L x0 x1 x2 x3 = some (12, x3) := by unfold accS; rw [hL 12 (by omega)]; rfl
    rw [e] at hh1
    obtain ⟨o1, fp, ⟨l3, ⟨q1, q2⟩, q3⟩, o3⟩ := hh1
    exact hk l3 H' (On.below ⟨o1, fp, q3, o3⟩ hh2.le) q2 fr' inv.src q1
end Go.Proofs.YtkfbmoekghbgbaaDoor.K
