/- Rules for copy, for append of new elements, clear, overlaps; places in arrays; structs compared. -/
import Derived.Test.YtkfbmoekghbgbaaSatWrit
import Derived.Laws.Externs
import Derived.Lib.Overlaps
import Derived.Laws.StructEq
import Derived.KernelRfl
set_option linter.unusedVariables false
set_option linter.unusedSimpArgs false
namespace Go.Proofs.Ytkfbmoekghbgbaa.K
open Go
theorem zero_one {z : Array Value} (h : ∀ u ∈ z.toList, u.oneCell' = true) (n : Nat) : ∀ u ∈ (Builtin.zeroCells z n).toList, u.oneCell' = true := by
  intro u hu
  unfold Builtin.zeroCells at hu
  simp only [Array.toList_map, List.mem_map, Array.mem_toList_iff, Array.mem_range] at hu
  obtain ⟨a, ha, rfl⟩ := hu
  have hz : 0 < z.size := by
    rcases Nat.eq_zero_or_pos z.size with h0 | h0
    · rw [h0] at ha; omega
    · exact h0
  have hlt := Nat.mod_lt a hz
  rw [getElem!_pos z _ hlt]
  exact h _ (by simp)
def SH.cpy (H : SH) (a : Option (Nat × Nat)) (vs : List Value) : SH := match a with
  | none => H
  | some p => SH.setl H p vs
section
variable {P : Program} {n : Nat} {fr : Fr} {H : SH} {Q : Post} {ops : Array Oper} {o : Oper} {l : List Oper}
/-- What may be written: from what is known on, as far as the block goes. -/
def SH.wrx (H : SH) (p : Nat × Nat) (n : Nat) : Prop := ∃ o, H p.1 = some o ∧ o.ro = false ∧ p.2 ≤ o.cells.length ∧ p.2 + n ≤ o.size
theorem storeCells_Stx {w : World} (hw : Sat H w) {p : Nat × Nat} {vs : List Value} (h : H.wrx p vs.length) (h1 : ∀ v ∈ vs, v.oneCell' = true) : ∃ w', (storeCells (ad p) vs).run P w = .ok () w' ∧ St w H (H.setl p vs) w' := by
  obtain ⟨ob, hb, hro, hlen, hsz0⟩ := h
  obtain ⟨_, rest, fz, he, hsz, hfz⟩ := (hw _ ob hb).got (.inl hro)
  refine ⟨_, storeCells_row P p.1 p.2 ob.ty fz vs 0 _ w he (by simp only [Nat.add_zero, List.size_toArray, hsz]; omega) (fun j hj => hfz hro j (.inl (by rw [← hsz]; simpa using hj))) h1, ?_⟩
  have : H.setl p vs = H.upd p.1 { ob with cells := wrl ob.cells p.2 vs } := by unfold SH.setl; rw [hb]
  rw [this]
  refine St.setRow hw hb hro _ ?_ _ rfl rfl hro ?_
  · rw [← hsz] at hsz0 ⊢
    simp at *; omega
  · refine ⟨rest.drop (p.2 + vs.length - ob.cells.length), ?_⟩
    simp only [wrl, Nat.add_zero]
    rw [List.take_append_of_le_length hlen, List.drop_append]
    simp [List.append_assoc]
theorem SOps.copyJ {t tx E : TypeId} {s' x' : Operand} {d size : Nat} (ho : o.op = .call { callee := .builtin .copy, args := #[s', x'], argTypes := #[t, tx] }) (hd : o.dst = some d) (hg : wantF n ops fr o = true)
    (ht : P.underlying t = some (.slice E)) (hi : (P.info? E).map (·.size) = some size) {s x : Sl} {news : List Value} (hs : evF n fr s' = sv s) (hx : evF n fr x' = sv x) (hr : H.row x.a news) (hl : news.length = Nat.min x.len s.len * size) (h1 : ∀ u ∈ news, u.oneCell' = true)
    (hw : ∀ p, s.a = some p → H.wrx p news.length) (hn : SOps P n ops l (fr.upd d (.int .i64 ((Nat.min x.len s.len : Nat) : Int))) (H.cpy s.a news) Q) : SOps P n ops (o :: l) fr H Q := by
  obtain ⟨i, hi', rfl⟩ := Option.map_eq_some_iff.1 hi
  have hlen : ∀ w, (Builtin.lenOf (sv x)).run P w = .ok x.len w := fun w => rfl
  have hc : ∀ w, Sat H w → (Builtin.firstCells i.size (Nat.min x.len s.len) (sv x)).run P w = .ok news.toArray w := by
    intro w hw
    have := Reads.cells (P := P) (H := H) (size := i.size) (tx := t) (x := sv ⟨x.a, Nat.min x.len s.len, x.cap⟩) (m := Nat.min x.len s.len) (news := news) (.inl ⟨⟨E, ht⟩, _, rfl, rfl, hr⟩) hl hw
    unfold sv at this ⊢
    cases ha : x.a with
    | none => rw [ha] at this; simpa [Builtin.firstCells] using this
    | some p => rw [ha] at this; simpa [Builtin.firstCells] using this
  have hsz : ∀ w, (sizeOf E).run P w = .ok i.size w := fun w => by simp [sizeOf, typeInfo, hi', Sem.run, program]
  refine SOps.step (R := fun v' H' => v' = .int .i64 ((Nat.min x.len s.len : Nat) : Int) ∧ H' = H.cpy s.a news) hd hg (fun w hw' => ?_) (fun v' H' ⟨e1, e2⟩ => by subst e1; subst e2; exact hn)
  cases ha : s.a with
  | none =>
    refine ⟨_, H, w, .inl ?_, .refl hw', rfl, rfl⟩
    have hrun : (Builtin.copy_ #[t, tx] o.type #[.slice none s.len s.cap, sv x]).run P w = .ok (.int .i64 (Nat.min x.len s.len : Nat)) w := by
      simp only [Builtin.copy_, List.getElem?_toArray, List.getElem?_cons_zero, List.getElem?_cons_succ, Sem.run_bind, run_underlying ht, Result.andThen_ok, hlen, hsz, hc w hw']
      rfl
    unfold execOp
    simp only [ho, resolve, hs, hx, invoke, builtin, Sem.run_bind, Sem.run_pure, Result.andThen_ok, List.map_toArray, List.map_cons, List.map_nil]
    rw [show sv s = .slice none s.len s.cap by unfold sv; rw [ha]; rfl, hrun]; rfl
  | some p =>
    obtain ⟨w', hst, hSt⟩ := storeCells_Stx (P := P) hw' (hw p ha) h1
    refine ⟨_, _, w', .inl ?_, hSt, rfl, rfl⟩
    have hrun : (Builtin.copy_ #[t, tx] o.type #[.slice (some (ad p)) s.len s.cap, sv x]).run P w = .ok (.int .i64 (Nat.min x.len s.len : Nat)) w' := by
      simp only [Builtin.copy_, List.getElem?_toArray, List.getElem?_cons_zero, List.getElem?_cons_succ, Sem.run_bind, run_underlying ht, Result.andThen_ok, hlen, hsz, hc w hw', hst]
      rfl
    unfold execOp
    simp only [ho, resolve, hs, hx, invoke, builtin, Sem.run_bind, Sem.run_pure, Result.andThen_ok, List.map_toArray, List.map_cons, List.map_nil]
    rw [show sv s = .slice (some (ad p)) s.len s.cap by unfold sv; rw [ha]; rfl, hrun]; rfl
/-- New elements behind a slice: 'append(s, make(..)...)'. -/
theorem run_appendZ {t tx ty E : TypeId} {i : TypeInfo} {z : Value} {k k' : IntKind} (ht : P.underlying t = some (.slice E)) (htx : P.underlying tx = some (.int k)) (hi : P.info? E = some i) (hz : i.zero = some z) (hzs : z.cells.size = i.size) (hs1 : 0 < i.size) (hb1 : 0 < i.bytes)
    {s : Sl} {x : Int} (h0 : 0 ≤ x) {K : Sl → SH → Prop} (h : AppendQ H E i.size i.bytes s x.toNat (Builtin.zeroCells z.cells x.toNat).toList K) {w : World} (hw : Sat H w) :
    ∃ s' H' w', (Builtin.append_ #[t, tx] ty #[sv s, .int k' x]).run P w = .ok (sv s') w' ∧ St w H H' w' ∧ K s' H' := by
  obtain ⟨m, rfl⟩ := Int.eq_ofNat_of_zero_le h0
  simp only [Int.toNat_natCast] at h
  obtain ⟨hb, h63, hl, h1, hroom, hgrow⟩ := h
  have hmb : m * i.bytes ≤ 140737488355328 := Nat.le_trans (Nat.mul_le_mul_right _ (Nat.le_add_left _ _)) hb
  have hm63 : m ≤ 140737488355328 := Nat.le_trans (Nat.le_mul_of_pos_right _ hb1) hmb
  have hwr : IntKind.i64.wrap (m : Int) = m := by rw [IntKind.wrap_i64]; omega
  have hneg : ¬ ((m : Int) < 0) := by omega
  have h48 : ¬ ((m : Int) * (i.bytes : Int) > 2 ^ 48) := by
    rw [← Int.natCast_mul]
    have : (2 : Int) ^ 48 = 281474976710656 := by decide
    omega
  have happ : ∀ w : World, ((if m * i.size = 0 then pure #[] else do pure (Builtin.zeroCells (← zeroValue E).cells m)) : Sem (Array Value)).run P w = .ok (Builtin.zeroCells z.cells m) w := fun w => by
    by_cases hm : m = 0
    · subst hm
      simp [Builtin.zeroCells]
    · have : ¬ (m * i.size = 0) := Nat.mul_ne_zero hm (by omega)
      simp [this, zeroValue, typeInfo, hi, hz, Sem.run, program]
  by_cases hc : s.len + m ≤ s.cap
  · obtain ⟨hn, hs⟩ := hroom hc
    cases ha : s.a with
    | none =>
      refine ⟨_, H, w, ?_, .refl hw, hn ha⟩
      have hin : (typeInfo E).run P = fun w => .ok i w := by funext w; simp [typeInfo, hi, Sem.run, program]
      simp only [Builtin.append_, sv, ha, List.getElem?_toArray, List.getElem?_cons_zero, List.getElem?_cons_succ, Sem.run_bind, run_underlying ht, run_underlying htx, Result.andThen_ok, sizeOf, hin, Sem.run_pure, asInt, asIntOf, hwr, Int.toNat_natCast, hneg, h48, hc, Bool.not_true, Bool.false_eq_true, if_false, if_true, Sem.run_ite, Option.map_none]
      have := happ w
      simp only [Sem.run_ite, Sem.run_pure, Sem.run_bind] at this
      rw [this]; rfl
    | some p =>
      obtain ⟨ob, hob, hro, h2, h3, hK⟩ := hs p ha
      obtain ⟨_, rest, fz, he, hsz, hfz⟩ := (hw _ ob hob).got (.inl hro)
      have hfit : p.2 + s.len * i.size + 0 + (Builtin.zeroCells z.cells m).toList.length ≤ (ob.cells ++ rest).toArray.size := by
        rw [hl, List.size_toArray, hsz, Nat.add_mul] at *; omega
      have hst := storeCells_row P p.1 (p.2 + s.len * i.size) ob.ty fz (Builtin.zeroCells z.cells m).toList 0 _ w he hfit (fun j hj => hfz hro j (.inl (by rw [← hsz]; simpa using hj))) h1
      refine ⟨_, _, _, ?_, St.setRow hw hob hro ((ob.cells ++ rest).toArray.toList.take (p.2 + s.len * i.size + 0) ++ (Builtin.zeroCells z.cells m).toList ++ (ob.cells ++ rest).toArray.toList.drop (p.2 + s.len * i.size + 0 + (Builtin.zeroCells z.cells m).toList.length)).toArray ?_ { ob with cells := wrl ob.cells (p.2 + s.len * i.size) (Builtin.zeroCells z.cells m).toList } rfl rfl hro ?_, hK⟩
      · have hadd : (ad p).add (s.len * i.size) = ⟨p.1, p.2 + s.len * i.size, none⟩ := add_ad p _
        simp only [Nat.add_zero] at hst ⊢
        have hin : (typeInfo E).run P = fun w => .ok i w := by funext w; simp [typeInfo, hi, Sem.run, program]
        simp only [Builtin.append_, sv, ha, List.getElem?_toArray, List.getElem?_cons_zero, List.getElem?_cons_succ, Sem.run_bind, run_underlying ht, run_underlying htx, Result.andThen_ok, sizeOf, hin, Sem.run_pure, asInt, asIntOf, hwr, Int.toNat_natCast, hneg, h48, hc, Bool.not_true, Bool.false_eq_true, if_false, if_true, Sem.run_ite, Option.map_some]
        have := happ w
        simp only [Sem.run_ite, Sem.run_pure, Sem.run_bind] at this
        rw [this]
        simp only [Result.andThen_ok, hadd, hst, Sem.run_bind, Sem.run_pure]
      · rw [List.size_toArray] at *
        simp only [Nat.add_zero] at hfit
        simp [hl, ← hsz] at *; omega
      · refine ⟨rest.drop (p.2 + s.len * i.size + (Builtin.zeroCells z.cells m).toList.length - ob.cells.length), ?_⟩
        simp only [wrl, Nat.add_zero]
        rw [List.take_append_of_le_length h2, List.drop_append]
        simp [List.append_assoc]
  · obtain ⟨olds, ho1, ho2, hK⟩ := hgrow (by omega)
    have hold : ∀ w, Sat H w → (Builtin.firstCells i.size s.len (.slice (s.a.map ad) s.len s.cap)).run P w = .ok olds.toArray w := fun w hw =>
      Reads.cells (P := P) (H := H) (size := i.size) (tx := t) (x := sv s) (m := s.len) (news := olds) (.inl ⟨⟨E, ht⟩, s, rfl, rfl, ho2⟩) ho1 hw
    have hcap := grownCap_ge w (s.len + m) s.cap E
    have hfit := growslice_fits (old := s.cap) (by omega) hb
    have hw' : Sat H w.drew := hw
    have hal := St.alloc (H := H) (w := w.drew) hw' (olds.toArray ++ Builtin.zeroCells z.cells m ++ Builtin.zeroCells z.cells (grownCap w (s.len + m) s.cap E - (s.len + m))) E
    refine ⟨⟨some (w.heap.size, 0), s.len + m, grownCap w (s.len + m) s.cap E⟩, H.upd w.heap.size ⟨olds ++ (Builtin.zeroCells z.cells m).toList, E, false, grownCap w (s.len + m) s.cap E * i.size⟩,
      w.drew.alloc (.cells (olds.toArray ++ Builtin.zeroCells z.cells m ++ Builtin.zeroCells z.cells (grownCap w (s.len + m) s.cap E - (s.len + m))) E), ?_, ?_, hK _ _ hal.1 hcap⟩
    · have h63' : ¬ (((s.len + m : Nat) : Int) > IntKind.i64.max) := by
        have hm : IntKind.i64.max = 9223372036854775807 := rfl
        rw [hm]; omega
      have hfit' : ¬ (Builtin.nextslicecap (s.len + m) s.cap * i.bytes > 2 ^ 48) := by
        have : (2 : Nat) ^ 48 = 281474976710656 := by decide
        omega
      have hch : (choose (.appendCap (s.len + m) s.cap E)).run P w = .ok (grownCap w (s.len + m) s.cap E) w.drew := rfl
      have hask : ∀ b, (askRoom b).run P w.drew = .ok () w.drew := by intro b; unfold askRoom; split <;> rfl
      have hin : (typeInfo E).run P = fun w => .ok i w := by funext w; simp [typeInfo, hi, Sem.run, program]
      simp only [Builtin.append_, sv, List.getElem?_toArray, List.getElem?_cons_zero, List.getElem?_cons_succ, Sem.run_bind, run_underlying ht, run_underlying htx, Result.andThen_ok, sizeOf, hin, Sem.run_pure, asInt, asIntOf, hwr, Int.toNat_natCast, hneg, h48, Bool.not_true, Bool.false_eq_true, if_false, hc, Sem.run_ite, h63', false_and, hfit', hch, hask, hold w.drew hw', if_true, zeroValue, hz, run_newRow]
      have hif : (if m * i.size = 0 then (Result.ok #[] w.drew : Result (Array Value)) else .ok (Builtin.zeroCells z.cells m) w.drew) = .ok (Builtin.zeroCells z.cells m) w.drew := by
        by_cases hm : m = 0
        · subst hm; simp [Builtin.zeroCells]
        · rw [if_neg (Nat.mul_ne_zero hm (by omega))]
      rw [hif]
      rfl
    · have hst := hal.2
      refine ⟨hst.os, hst.tape, hst.output, hst.size, hst.keep, ?_, ?_⟩
      · intro b ob hb'
        by_cases hbs : b = w.heap.size
        · subst hbs
          rw [SH.upd_same] at hb'
          obtain rfl := Option.some.inj hb'
          refine SatO.mk rfl ⟨(Builtin.zeroCells z.cells (grownCap w (s.len + m) s.cap E - (s.len + m))).toList, (0, 0), ?_, ?_, fun _ j _ => by simp⟩
          · show (w.heap.push _)[w.heap.size]? = _
            simp
          · simp only [List.length_append, ho1, hl, Array.length_toList, size_zeroCells, hzs, ← Nat.add_mul]
            congr 1; omega
        · rw [SH.upd_ne _ _ hbs] at hb'
          exact hst.sat b ob (by rw [SH.upd_ne _ _ (by exact hbs)]; exact hb')
      · intro b ob hb'
        by_cases hbs : b = w.heap.size
        · right; subst hbs; exact Nat.le_refl _
        · rw [SH.upd_ne _ _ hbs] at hb'
          exact .inl ⟨ob, hb', id⟩
theorem SOps.appendZ {t tx E : TypeId} {s' x' : Operand} {d size bytes : Nat} {z : Value} {k k' : IntKind} (ho : o.op = .call { callee := .builtin .append, args := #[s', x'], argTypes := #[t, tx] }) (hd : o.dst = some d) (hg : wantF n ops fr o = true)
    (ht : P.underlying t = some (.slice E)) (htx : P.underlying tx = some (.int k)) (hi : (P.info? E).map (fun i => (i.zero, i.size, i.bytes)) = some (some z, size, bytes)) (hzs : z.cells.size = size) (hs1 : 0 < size) (hb1 : 0 < bytes)
    {s : Sl} {x : Int} (hs : evF n fr s' = sv s) (hx : evF n fr x' = .int k' x) (h0 : 0 ≤ x) (h : AppendQ H E size bytes s x.toNat (Builtin.zeroCells z.cells x.toNat).toList (fun s' H' => SOps P n ops l (fr.upd d (sv s')) H' Q)) :
    SOps P n ops (o :: l) fr H Q := by
  obtain ⟨i, hi', he⟩ := Option.map_eq_some_iff.1 hi
  simp only [Prod.mk.injEq] at he
  obtain ⟨hz, rfl, rfl⟩ := he
  refine SOps.step (R := fun v' H' => ∃ s', v' = sv s' ∧ SOps P n ops l (fr.upd d (sv s')) H' Q) hd hg (fun w hw => ?_) (fun v' H' ⟨s', e, h'⟩ => by subst e; exact h')
  obtain ⟨s2, H', w', hrun, hst, hK⟩ := run_appendZ (P := P) (ty := o.type) (k' := k') ht htx hi' hz hzs hs1 hb1 h0 h hw
  refine ⟨_, H', w', .inl ?_, hst, s2, rfl, hK⟩
  unfold execOp
  simp [ho, resolve, hs, hx, invoke, builtin, hrun]
theorem SOps.clear {t E : TypeId} {x' : Operand} {size : Nat} {z : Value} (ho : o.op = .call { callee := .builtin .clear, args := #[x'], argTypes := #[t] }) (hd : o.dst = none) (hg : wantF n ops fr o = true)
    (ht : P.underlying t = some (.slice E)) (hi : (P.info? E).map (fun i => (i.zero, i.size)) = some (some z, size)) (hzs : z.cells.size = size) {x : Sl} (hx : evF n fr x' = sv x) (h1 : ∀ u ∈ z.cells.toList, u.oneCell' = true)
    (hw : ∀ p, x.a = some p → H.wrs p (x.len * size)) (hn : SOps P n ops l fr (H.cpy x.a (Builtin.zeroCells z.cells x.len).toList) Q) : SOps P n ops (o :: l) fr H Q := by
  obtain ⟨i, hi', he⟩ := Option.map_eq_some_iff.1 hi
  simp only [Prod.mk.injEq] at he
  obtain ⟨hz, rfl⟩ := he
  have hl : (Builtin.zeroCells z.cells x.len).toList.length = x.len * i.size := by rw [Array.length_toList, size_zeroCells, hzs]
  refine SOps.stepN (R := fun H' => H' = H.cpy x.a (Builtin.zeroCells z.cells x.len).toList) hd hg (fun w hw' => ?_) (fun H' e2 => by subst e2; exact hn)
  cases ha : x.a with
  | none =>
    refine ⟨.tuple #[], H, w, .inl ?_, .refl hw', rfl⟩
    have hrun : (Builtin.clear_ #[t] o.type #[sv x]).run P w = .ok (.tuple #[]) w := by
      unfold sv
      rw [ha]
      simp [Builtin.clear_, run_underlying ht]
    unfold execOp
    simp [ho, resolve, hx, invoke, builtin, hrun]
  | some p =>
    have h2 := hw p ha
    obtain ⟨w', hst, hSt⟩ := storeCells_St (P := P) hw' (p := p) (vs := (Builtin.zeroCells z.cells x.len).toList) (by rw [hl]; exact h2) (zero_one h1 x.len)
    have hrun : (Builtin.clear_ #[t] o.type #[sv x]).run P w = .ok (.tuple #[]) w' := by
      unfold sv
      rw [ha]
      by_cases h0 : x.len = 0
      · have e : (Builtin.zeroCells z.cells x.len).toList = [] := List.eq_nil_of_length_eq_zero (by rw [hl, h0, Nat.zero_mul])
        rw [e] at hst
        have : w' = w := by
          have : (storeCells (ad p) []).run P w = .ok () w := rfl
          rw [this] at hst
          cases hst; rfl
        rw [h0, this]
        simp [Builtin.clear_, run_underlying ht]
      · simp only [Builtin.clear_, List.getElem?_toArray, List.getElem?_cons_zero, Sem.run_bind, run_underlying ht, Result.andThen_ok, Option.map_some]
        cases hn0 : x.len with
        | zero => exact absurd hn0 h0
        | succ k =>
          rw [hn0] at hst
          simp [zeroValue, typeInfo, hi', hz, Sem.run, program]
          rw [hst]; rfl
    refine ⟨.tuple #[], _, w', .inl ?_, hSt, rfl⟩
    unfold execOp
    simp [ho, resolve, hx, invoke, builtin, hrun]
/-- The address of an array's element. -/
theorem ev_iaddrA {ρ : Operand → Value} {T E : TypeId} {m : Nat} {x ix : Operand} (ho : o.op = .indexAddr T x ix) (hT : P.underlying T = some (.array m E)) {size : Nat} (hs : (P.info? E).map (·.size) = some size) {p : Nat × Nat} {k : IntKind} {i : Int}
    (hx : ρ x = pv (some p)) (hi : ρ ix = .int k i) (h0 : 0 ≤ i) (h1 : i < m) (w : World) :
    (execOp ρ o).run P w = .ok (.value (pv (some (p.1, p.2 + i.toNat * size)))) w := by
  obtain ⟨inf, hinf, rfl⟩ := Option.map_eq_some_iff.1 hs
  unfold execOp
  simp [ho, hx, hi, Instr.indexAt, Instr.sureAddr, asIntOf, run_underlying hT, h0, h1, sizeOf, typeInfo, hinf, add_ad, pv]
/-- Two slices in different blocks, the first one of other things than bytes. -/
def Apart (H : SH) (a b : Option (Nat × Nat)) : Prop := a = none ∨ b = none ∨ ∃ pa pb oa ob, a = some pa ∧ b = some pb ∧ pa.1 ≠ pb.1 ∧ H pa.1 = some oa ∧ H pb.1 = some ob ∧ oa.ro = false ∧ oa.ty ≠ U8 ∧ ob.size ≠ 0
theorem Sat.thawed {w : World} (hw : Sat H w) {b : Nat} {ob : AO} (hb : H b = some ob) (hro : ob.ro = false) (ht : ob.ty ≠ U8) (i : Nat) (sp : Option Nat) : w.frozen? ⟨b, i, sp⟩ = false := by
  obtain ⟨_, rest, fz, he, hs, hfz⟩ := (hw b ob hb).got (.inl hro)
  have := hfz hro i (.inr ht)
  obtain ⟨lo, hi⟩ := fz
  unfold World.frozen?
  rw [he]
  simp only [] at this ⊢
  by_cases h1 : lo ≤ i <;> by_cases h2 : i < hi <;> simp [h1, h2] <;> exact absurd ⟨h1, h2⟩ this
theorem Sat.shape0 {w : World} (h : Sat H w) {b : Nat} {ob : AO} (hb : H b = some ob) (hm : ob.ro = false ∨ ob.cells ≠ [] ∨ ob.size ≠ 0) : w.shape? b = some (ob.ty, ob.size) := by
  obtain ⟨_, rest, fz, he, hs, _⟩ := (h b ob hb).got hm
  unfold World.shape?
  rw [he]
  simp [← hs]
theorem run_overlaps0 {tS tR E : TypeId} {size : Nat} (ht : P.underlying tS = some (.slice E)) (hz : ∀ w, (Go.sizeOf E).run P w = .ok size w) (a b : Option Addr) (la ca lb cb : Nat) (h : a = none ∨ b = none) (w : World) :
    (Extern.SlicesOverlaps.overlaps #[tS, tS] #[tR] #[.slice a la ca, .slice b lb cb]).run P w = .ok (.bool false) w := by
  change Sem.run P (α := Value) (do
    let some t := (#[tS, tS] : Array TypeId)[0]? | stuck "slices.overlaps: no parameter types"
    let .slice elem ← underlying t | stuck "slices.overlaps: slice type expected"
    let size ← sizeOf elem
    match a, b with
    | some a, some b =>
      if la = 0 ∨ lb = 0 ∨ size = 0 then pure (Value.bool false)
      else if a.block != b.block && (← frozen a) && (← frozen b) then unsupported .addressObserved
      else do
        if a.block != b.block then do
          noView a; noView b
          if ← mayBeOne a b then return Value.bool ((← choose (.extern "sameAddr.stringBytes" 2)) == 1)
        pure (Value.bool (a.block == b.block && a.off < b.off + lb * size && b.off < a.off + la * size))
    | _, _ => pure (Value.bool false)) w = _
  rcases h with rfl | rfl
  · simp [run_underlying ht, hz]
  · cases a <;> simp [run_underlying ht, hz]
theorem run_overlaps {tS tR E : TypeId} {size : Nat} (ht : P.underlying tS = some (.slice E)) (hz : (P.info? E).map (·.size) = some size) {x y : Sl} {w : World} (hw : Sat H w) (h : Apart H x.a y.a) :
    (Extern.SlicesOverlaps.overlaps #[tS, tS] #[tR] #[sv x, sv y]).run P w = .ok (.bool false) w := by
  obtain ⟨inf, hinf, rfl⟩ := Option.map_eq_some_iff.1 hz
  have hsz : ∀ w, (Go.sizeOf E).run P w = .ok inf.size w := fun w => by simp [Go.sizeOf, typeInfo, hinf, Sem.run, program]
  rcases h with h | h | ⟨pa, pb, oa, ob, ha, hb, hne, hoa, hob, hro, hty, hs0⟩
  · exact run_overlaps0 ht hsz _ _ _ _ _ _ (.inl (by rw [h]; rfl)) w
  · exact run_overlaps0 ht hsz _ _ _ _ _ _ (.inr (by rw [h]; rfl)) w
  · unfold sv
    rw [ha, hb]
    exact Lib.run_overlaps_apart w tS tR E ht inf.size hsz (ad pa) (ad pb) x.len x.cap y.len y.cap hne oa.ty ob.ty oa.size ob.size (hw.shape0 hoa (.inl hro)) (hw.shape0 hob (.inr (.inr hs0))) hs0 (hw.thawed hoa hro hty _ _) (hw.thawed hoa hro hty _ _)
theorem ev_ovl {ρ : Operand → Value} {x y : Sl} {f : FuncId} {fn : Func} {tS tR E : TypeId} {size : Nat} (hx : ∀ w, (execOp ρ o).run P w = (callFunc f #[sv x, sv y]).run P w) (hf : P.funcs[f]? = some fn) (hname : (fn.name == "runtime.NumGoroutine") = false)
    (hb : fn.body.isNone = true) (hn : Extern.findNext fn = none) (he : Extern.find fn = some (Extern.SlicesOverlaps.overlaps #[tS, tS] #[tR])) (ht : P.underlying tS = some (.slice E)) (hz : (P.info? E).map (·.size) = some size) (h : Apart H x.a y.a) (w : World) (hw : Sat H w) :
    (execOp ρ o).run P w = .ok (.value (.bool false)) w := by
  rw [hx, run_callFunc_extern hf hname hb hn he, run_overlaps ht hz hw h]; rfl
end
end Go.Proofs.Ytkfbmoekghbgbaa.K
